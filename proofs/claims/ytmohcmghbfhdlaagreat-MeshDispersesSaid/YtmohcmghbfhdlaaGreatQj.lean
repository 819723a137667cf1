/- MeshDisperses: the program's choice. -/
import Derived.Test.YtmohcmghbfhdlaaGreatQd
import Derived.Test.YtmohcmghbfhdlaaGreatQi
import Derived.Test.YtmohcmghbfhdlaaGreatQe
import Derived.Test.YtmohcmghbfhdlaaGreatProg
import Derived.Test.YtmohcmghbfhdlaaGreatQh
import Derived.Test.YtmohcmghbfhdlaaGreatQf
section
set_option linter.unusedSimpArgs false
set_option linter.unusedVariables false
section
namespace Go.Me
open Go.Ab
def dsP (a : Nat → List Int) (k : Nat) : List Pn := (List.range k).map fun j => ⟨dsA (a j), dsB (a j)⟩
theorem dsP_len (a : Nat → List Int) (k : Nat) : (dsP a k).length = k := by
 unfold dsP
 rw [List.length_map, List.length_range]
theorem dsP_s (a : Nat → List Int) (k : Nat) : flatP (dsP a k) ++ [.int .i64 (dsA (a k)), .int .i64 (dsB (a k))] = flatP (dsP a (k + 1)) := by
 have e : dsP a (k + 1) = dsP a k ++ [⟨dsA (a k), dsB (a k)⟩] := by
  unfold dsP
  rw [List.range_succ, List.map_append]
  rfl
 rw [e, flatP_snoc]
 rfl
theorem dsP_pt {a : Nat → List Int} {n k : Nat} (h : k < n) : pt (dsP a n) k = ⟨dsA (a k), dsB (a k)⟩ := by
 unfold pt dsP
 rw [List.getD_eq_getElem?_getD, List.getElem?_map, List.getElem?_range h]
 rfl
def memZ (S : List Sc) (a : Nat → List Int) (zq : Nat) (yq : Nat → Nat) : Mem := [some ⟨flatS S, false, zq⟩, some ⟨flatN (a 0), false, yq 0⟩, some ⟨flatN (a 1), false, yq 1⟩, some ⟨flatN (a 2), false, yq 2⟩, some ⟨flatN (a 3), false, yq 3⟩, some ⟨flatN (a 4), false, yq 4⟩, some ⟨flatN (a 5), false, yq 5⟩]
def slA : Value → Option Addr
 | .slice a _ _ => a
 | _ => none
def slC : Value → Nat
 | .slice _ _ c => c
 | _ => 0
theorem SlV.form {m : Mem} {i n : Nat} {v : Value} {cs : List Value} (h : SlV m i v cs n) : v = .slice (slA v) n (slC v) := by
 rcases h with ⟨k, h0, rfl, h2, h3, h4⟩ | ⟨h1, rfl⟩ | ⟨h1, rfl⟩
 ·rfl
 ·rw [h1]; rfl
 ·rw [h1]; rfl
end Go.Me
namespace Go.Proofs.YtmohcmghbfhdlaaGreat
open Go Go.RowKit Go.Ab Go.Me
set_option maxRecDepth 100000
set_option maxHeartbeats 4000000
attribute [local irreducible] OQ OW AL AW AF SW
theorem Index_n (p : Pn) (m : Mem) : PCalls Tryz.prog 138 [.slice none 0 0, ptV p] m (.int .i64 (-1)) := by
 refine PCalls.any ?_ rfl rfl m
 refine PCalls.en 17 Tryz.func138 rfl (ro_nil) rfl (fun E => ?_)
 repeat' (first | with_reducible (first | refine Then.n ?_ | refine Then.r ?_ | refine Then.x ?_ | refine InB.n ?_ | refine InB.r ?_ | refine InB.hit ?_ | refine InB.miss (by decide) ?_) | ((with_reducible refine AL.on ?_); first | ((first | ((with_reducible refine AL.k_move ?_); first | refine AL.mv ?_) | ((with_reducible refine AL.k_assign ?_); first | refine AL.as ?_) | ((with_reducible refine AL.k_binOp ?_); first | refine AL.g (OQ.lss rfl rfl) ?_ | refine AL.q rfl (eql_t65 rfl rfl) ?_ | refine AL.g (OQ.addi rfl rfl (by omega)) ?_ | refine AL.g (OQ.add rfl rfl) ?_) | ((with_reducible refine AL.k_call ?_); first | refine AL.g (OQ.lenS (xt := 22) (r := (none, 2, true)) rfl kr) ?_)); refine AL.nm ?_) | ((first | first | refine AL.bx ?_); refine AL.nm ?_; refine AL.nM ?_) | refine AL.nil ?_) | ((with_reducible refine AW.on ?_); first | refine AW.seq ?_ | refine AW.skip ?_ | refine AW.exit ?_ | refine AW.ret ?_ | (refine AW.block (id := 0) ?_; refine AW.unroll 1 ?_) | refine AW.block ?_ | (refine AW.drawF (id := 4) 5 #[0, 0, 0, 6, 14, 31] kr kr ?_; (conv => (arg 8; simp only [List.take_succ_cons, List.take_zero]))) | refine AW.region ?_ | (refine AW.conds rfl (fun hc => ?_) (fun hc => ?_) <;> (try replace hc := nc hc) <;> first | (exfalso; first | contradiction | (first | omega | (simp at hc; done)); done) | skip)) | ((with_reducible refine AF.on ?_); first | ((first | ((with_reducible refine AF.k_move ?_); first | (refine AF.q 0 (SW.q (OQ.move wl) rfl) ?_)) | ((with_reducible refine AF.k_load ?_); first | refine AF.ql rfl (SW.q (OQ.loadN (ty := 65) (n := 2) rfl kr kr rfl) rfl) ?_) | ((with_reducible refine AF.k_indexAddr ?_); first | refine AF.q 0 (SW.q (OQ.idxAddr (ty := 22) (z := 2) (g := true) rfl rfl kr (by omega) (by omega)) rfl) ?_)); refine AF.nm ?_) | refine AF.nl ?_) | with_reducible refine AR.s ?_ | ((with_reducible refine AR.out ?_); first | omega | (simp at hc; done); done) | ((with_reducible refine FinP.on ?_); (first | refine FinP.ret (.tmp wl .nil) ?_ rfl | refine FinP.end (.tmp wl .nil) ?_ rfl); (try simp only [pack, List.drop, List.take]); all_goals (rfl)))
theorem Contains_n (p : Pn) (m : Mem) : PCalls Tryz.prog 98 [.slice none 0 0, ptV p] m (.bool false) := by
 refine PCalls.any ?_ rfl rfl m
 refine PCalls.en 7 Tryz.func98 rfl (ro_nil) rfl (fun E => ?_)
 repeat' (first | with_reducible (first | refine Then.n ?_ | refine Then.r ?_ | refine Then.x ?_ | refine InB.n ?_ | refine InB.r ?_ | refine InB.hit ?_ | refine InB.miss (by decide) ?_) | ((with_reducible refine AL.on ?_); first | ((first | ((with_reducible refine AL.k_assign ?_); first | refine AL.as ?_) | ((with_reducible refine AL.k_move ?_); first | refine AL.mv ?_) | ((with_reducible refine AL.k_load ?_); first | refine AL.g (OQ.loadN (ty := 65) (n := 2) rfl kr kr rfl) ?_) | ((with_reducible refine AL.k_binOp ?_); first | refine AL.g (OQ.geq rfl rfl) ?_)); refine AL.nm ?_) | ((first | first | refine AL.pcall (g := 138) rfl kr rfl (Index_n _ _) ?_); refine AL.nm ?_) | ((first | first | refine AL.bx ?_); refine AL.nm ?_; refine AL.nM ?_) | refine AL.nil ?_) | ((with_reducible refine AW.on ?_); first | refine AW.seq ?_ | refine AW.skip ?_ | refine AW.exit ?_ | refine AW.ret ?_ | refine AW.block ?_ | refine AW.region ?_ | (refine AW.conds rfl (fun hc => ?_) (fun hc => ?_) <;> (try replace hc := nc hc) <;> first | (exfalso; first | contradiction | (first | omega | (simp at hc; done)); done) | skip)) | ((with_reducible refine FinP.on ?_); (first | refine FinP.ret (.tmp wl .nil) ?_ rfl | refine FinP.end (.tmp wl .nil) ?_ rfl); (try simp only [pack, List.drop, List.take]); all_goals (rfl)))
theorem Chosen_0 (S : List Sc) (a : Nat → List Int) (zq : Nat) (yq : Nat → Nat) (u d : Int) (c : Nat) (h1 : 0 < S.length) (h6 : S.length ≤ 6) (hu : -9223372036854775808 ≤ u ∧ u ≤ 9223372036854775807) (hd : -9223372036854775808 ≤ d ∧ d ≤ 9223372036854775807) (ha : ∀ k, k < S.length → (a k).length ≤ 1000000)
  (XA : Nat → Option Addr) (XC : Nat → Nat) (hXX : ∀ k, k < S.length → (sc S k).2 = .slice (XA k) (a k).length (XC k)) (hkp : ∀ v ∈ flatS S, kp 7 v) (hA : ∀ k, k < S.length → ∀ r : Mem, PCalls Tryz.prog 48 [.slice (XA k) (a k).length (XC k)] (some ⟨flatS S, false, zq⟩ :: some ⟨flatN (a 0), false, yq 0⟩ :: some ⟨flatN (a 1), false, yq 1⟩ :: some ⟨flatN (a 2), false, yq 2⟩ :: some ⟨flatN (a 3), false, yq 3⟩ :: some ⟨flatN (a 4), false, yq 4⟩ :: some ⟨flatN (a 5), false, yq 5⟩ :: r) (.tuple #[.agg #[.int .i64 (dsA (a k)), .int .i64 (dsB (a k))], .int .i64 (dsE (a k))])) (X : Int) (R : List Int) (hF : ChF S a u d X R) :
  ACalls Tryz.prog 51 [.slice (some ⟨0, 0, none⟩) S.length c, .agg #[.int .i64 u, .int .i64 d]] (memZ S a zq yq) (.tuple #[oV 7 R, .int .i64 X]) (memZ S a zq yq ++ [oB R]) := by
 have hk7 := fun (n : Nat) (hn : 7 ≤ n) (v : Value) (h : v ∈ flatS S) => kp_mono hn (hkp v h)
 have hld := fun (k : Nat) (hk : k < S.length) (r : Mem) => flatS_ld (m := some ⟨flatS S, false, zq⟩ :: r) (b := 0) (S := S) rfl rfl k hk
 have hld := fun (k : Nat) (hk : k < S.length) (r : Mem) => hXX k hk ▸ hld k hk r
 have hq1 := fun (m : Mem) (k b c : Nat) (blk : Blk) (e1 : m.at b = some blk) (e2 : blk.cells = flatP [(sc S k).1]) (e3 : blk.obj = Ob.plain) => placeErr_q (n := 1) (c := c) [(sc S k).1] e1 e2 rfl (by simp) e3
 have hq2 := fun (m : Mem) (k : Nat) (hk : k < S.length) (b c : Nat) (blk : Blk) (e1 : m.at b = some blk) (e2 : blk.cells = flatP ((psS S).take k)) (e3 : blk.obj = Ob.plain) => Contains_q (n := k) (c := c) ((psS S).take k) (sc S k).1 e1 e2 (by rw [List.length_take, psS_len]; omega) (by rw [List.length_take, psS_len]; omega) e3
 have hpl1 : ∀ k, plE [(sc S k).1] = 0 ∧ okP (sc S k).1 = true ∨ plE [(sc S k).1] = 2 ∧ okP (sc S k).1 = false := fun k => by
  rw [plE_cons, plE_nil]
  cases okP (sc S k).1 <;> simp
 have g2 : ∀ k, k < S.length → ¬ plE [(sc S k).1] = 0 → plE [(sc S k).1] = 2 ∧ ptE (psS S) k = 2 := fun k hk h => by
  rcases hpl1 k with h2 | h2
  ·exact absurd h2.1 h
  ·refine ⟨h2.1, ?_⟩
   unfold ptE
   rw [psS_pt hk, if_pos h2.2]
 have hib := fun k => idxP_bd (psS S) (sc S k).1 k
 have g5 : ∀ k, k < S.length → plE [(sc S k).1] = 0 → decide (0 ≤ idxP ((psS S).take k) (sc S k).1 k) = true → ptE (psS S) k = 5 := fun k hk h h3 => by
  have h4 := of_decide_eq_true h3
  rw [idxP_take _ k (Nat.le_refl _)] at h4
  rcases hpl1 k with h2 | h2
  ·unfold ptE
   rw [psS_pt hk, if_neg (by rw [h2.2]; decide), if_neg (by omega)]
  ·omega
 have g0 : ∀ k, k < S.length → plE [(sc S k).1] = 0 → decide (0 ≤ idxP ((psS S).take k) (sc S k).1 k) = false → ptE (psS S) k = 0 := fun k hk h h3 => by
  have h4 := of_decide_eq_false h3
  rw [idxP_take _ k (Nat.le_refl _)] at h4
  have := hib k
  rcases hpl1 k with h2 | h2
  ·unfold ptE
   rw [psS_pt hk, if_neg (by rw [h2.2]; decide), if_pos (by omega)]
  ·omega
 have g00 : ∀ k, k = 0 → plE [(sc S k).1] = 0 → ptE (psS S) k = 0 := fun k hk h => by
  subst hk
  exact g0 0 h1 h rfl
 have hck : ∀ k, k < S.length → flatP ((psS S).take k) ++ [.int .i64 (sc S k).1.x, .int .i64 (sc S k).1.y] = flatP ((psS S).take (k + 1)) := fun k hk => by
  have := flatP_tk (l := psS S) (k := k) (by rw [psS_len]; exact hk)
  rw [psS_pt hk] at this
  exact this
 have hc0 : ∀ k : Nat, k = 0 → [.int .i64 (sc S k).1.x, .int .i64 (sc S k).1.y] = flatP ((psS S).take 1) := fun k hk => by
  subst hk
  exact hck 0 h1
 have hda := dsP_s a
 have hpl : ∀ k, k ≤ S.length → (flatP ((psS S).take k)).length = k * 2 := fun k hk => by rw [flatP_len, List.length_take, psS_len, Nat.min_eq_left hk]
 have hdl : ∀ k, (flatP (dsP a k)).length = k * 2 := fun k => by rw [flatP_len, dsP_len]
 have hld2 : ∀ (k : Nat) (hk : k < S.length) (x0 x1 x2 x3 x4 x5 x6 x7 x8 : Option Blk) (r : Mem), Mem.ld (x0 :: x1 :: x2 :: x3 :: x4 :: x5 :: x6 :: x7 :: x8 :: some ⟨flatP (dsP a S.length), true, 2⟩ :: r) 9 (k * 2) 2 = some [.int .i64 (dsA (a k)), .int .i64 (dsB (a k))] := fun k hk x0 x1 x2 x3 x4 x5 x6 x7 x8 r => by
  have := flatP_ld (m := x0 :: x1 :: x2 :: x3 :: x4 :: x5 :: x6 :: x7 :: x8 :: some ⟨flatP (dsP a S.length), true, 2⟩ :: r) (b := 9) (l := dsP a S.length) rfl rfl k (by rw [dsP_len]; exact hk)
  rw [dsP_pt hk] at this
  exact this
 have hs0 : ∀ k, ptE (psS S) k = 0 → dsE (a k) = 0 → scE S a k = 0 := fun k e1 e2 => (if_neg (fun h => h e1)).trans e2
 have hab := fun k => dsA_bd (a k)
 have hcl : ∀ k, (flatN (chT a u d k)).length = (chT a u d k).length * 1 := fun k => by unfold flatN; rw [List.length_map, Nat.mul_one]
 have hcb : ∀ k, (chT a u d k).length ≤ k := fun k => by
  induction k with
  | zero => exact Nat.le_refl _
  | succ k ih =>
   unfold chT
   split
   ·rw [List.length_append]
    exact Nat.succ_le_succ ih
   ·omega
 have hB := divisor_g u d hu hd
 have hgc := dvI_gcd d.natAbs u d (Nat.le_refl _)
 have hW := within_q u 0 1000000000
 have hb1 : d ≤ 0 → frX u d = 3 := fun h => if_neg (fun h2 => by omega)
 have hb1b : ¬ dvI u d = 1 → ¬ dvI u d = -1 → frX u d = 3 := fun h h2 => if_neg (fun h3 => by omega)
 have hb2 : 0 < d → (dvI u d = 1 ∨ dvI u d = -1) → ¬ ((0 ≤ u ∧ u ≤ 1000000000) ∧ d ≤ 1000000000) → frX u d = 2 := fun h h3 h2 => (if_pos ⟨h, by omega⟩).trans (if_neg h2)
 have hb3 : 0 < d → (dvI u d = 1 ∨ dvI u d = -1) → ((0 ≤ u ∧ u ≤ 1000000000) ∧ d ≤ 1000000000) → frX u d = 0 := fun h h3 h2 => (if_pos ⟨h, by omega⟩).trans (if_pos h2)
 generalize dvI u d = DV at *
 have hw1 : rgB u 0 1000000000 = true → 0 ≤ u ∧ u ≤ 1000000000 := rgB_true.1
 have hw2 : rgB u 0 1000000000 = false → ¬ (0 ≤ u ∧ u ≤ 1000000000) := fun h h2 => by
  rw [rgB_true.2 h2] at h
  cases h
 generalize rgB u 0 1000000000 = B2 at *
 have hC := fun (k : Nat) (e1 : 0 < d) (e2 : B2 = true) (m : Mem) => atMost_q (dsA (a k)) (dsB (a k)) u d (by have := hab k; omega) (by have := hab k; omega) (by have := hw1 e2; omega) (by omega) m
 have cY : ∀ k, decide (dsA (a k) * d ≤ u * dsB (a k)) = true → chT a u d (k + 1) = chT a u d k ++ [(k : Int)] := fun k h => chT_y (of_decide_eq_true h)
 have cN : ∀ k, decide (dsA (a k) * d ≤ u * dsB (a k)) = false → chT a u d (k + 1) = chT a u d k := fun k h => chT_n (of_decide_eq_false h)
 have hB3 : ∃ B3 : Nat → Bool, ∀ k, decide (dsA (a k) * d ≤ u * dsB (a k)) = B3 k := ⟨_, fun _ => rfl⟩
 obtain ⟨B3, hB3⟩ := hB3
 simp only [hB3] at hC cY cN
 have hI3 : ∃ I3 : Nat → Bool, ∀ k, decide (0 ≤ idxP ((psS S).take k) (sc S k).1 k) = I3 k := ⟨_, fun _ => rfl⟩
 obtain ⟨I3, hI3⟩ := hI3
 simp only [hI3] at hq2 g5 g0
 have cfl : ∀ (xs : List Int) (k : Nat), flatN (xs ++ [(k : Int)]) = flatN xs ++ [.int .i64 k] := fun xs k => by
  unfold flatN
  rw [List.map_append]
  rfl
 obtain ⟨f1, f2, f3, f4⟩ := hF
 have hT0 : chT a u d 0 = [] := rfl
 clear hB3 hI3 hib
 generalize chT a u d = CT at *
 generalize frX u d = FX at *
 generalize scE S a = F at *
 generalize ptE (psS S) = G at *
 show ACalls Tryz.prog 51 [.slice (some ⟨0, 0, none⟩) S.length c, .agg #[.int .i64 u, .int .i64 d]] [some ⟨flatS S, false, zq⟩, some ⟨flatN (a 0), false, yq 0⟩, some ⟨flatN (a 1), false, yq 1⟩, some ⟨flatN (a 2), false, yq 2⟩, some ⟨flatN (a 3), false, yq 3⟩, some ⟨flatN (a 4), false, yq 4⟩, some ⟨flatN (a 5), false, yq 5⟩] (.tuple #[oV 7 R, .int .i64 X]) [some ⟨flatS S, false, zq⟩, some ⟨flatN (a 0), false, yq 0⟩, some ⟨flatN (a 1), false, yq 1⟩, some ⟨flatN (a 2), false, yq 2⟩, some ⟨flatN (a 3), false, yq 3⟩, some ⟨flatN (a 4), false, yq 4⟩, some ⟨flatN (a 5), false, yq 5⟩, oB R]
 refine ACalls.en 101 Tryz.func51 rfl rfl (fun E hE => ?_)
 repeat' (first | with_reducible (first | refine Then.n ?_ | refine Then.r ?_ | refine Then.x ?_ | refine InB.n ?_ | refine InB.r ?_ | refine InB.hit ?_ | refine InB.miss (by decide) ?_) | ((with_reducible refine AL.on ?_); first | (refine AL.gd rfl ?_; first | (refine AL.gskip rfl rfl ?_; refine AL.nm ?_) | (refine AL.gs1 rfl rfl (fun hc => ?_) (fun hc => ?_) <;> (try replace hc := nc hc) <;> first | (exfalso; first | contradiction | (first | omega | (simp at hc; done)); done) | refine AL.nm ?_) | (refine AL.gs0 rfl rfl (fun hc => ?_) (fun hc => ?_) <;> (try replace hc := nc hc) <;> first | (exfalso; first | contradiction | (first | omega | (simp at hc; done)); done) | refine AL.nm ?_)) | ((first | ((with_reducible refine AL.k_assign ?_); first | refine AL.as ?_) | ((with_reducible refine AL.k_move ?_); first | refine AL.mv ?_) | ((with_reducible refine AL.k_load ?_); first | (refine AL.g (OQ.loadN (ty := 81) (n := 3) rfl kr kr (by first | (first | rfl | (with_reducible apply hld; omega) | (with_reducible apply hld2; omega) | (apply hld; omega) | (apply hld2; omega)) | rfl)) ?_) | (refine AL.g (OQ.loadN (ty := 65) (n := 2) rfl kr kr (by first | (first | rfl | (with_reducible apply hld; omega) | (with_reducible apply hld2; omega) | (apply hld; omega) | (apply hld2; omega)) | rfl)) ?_) | (refine AL.g (OQ.load1 (ty := 26) rfl kr (by first | (first | rfl | (with_reducible apply hld; omega) | (with_reducible apply hld2; omega) | (apply hld; omega) | (apply hld2; omega)) | (conv => lhs; whnf))) ?_) | (refine AL.g (OQ.load1 (ty := 3) rfl kr (by first | (first | rfl | (with_reducible apply hld; omega) | (with_reducible apply hld2; omega) | (apply hld; omega) | (apply hld2; omega)) | (conv => lhs; whnf))) ?_) | (refine AL.g (OQ.loadN (ty := 52) (n := 2) rfl kr kr (by first | (first | rfl | (with_reducible apply hld; omega) | (with_reducible apply hld2; omega) | (apply hld; omega) | (apply hld2; omega)) | rfl)) ?_)) | ((with_reducible refine AL.k_call ?_); first | refine AL.g (OQ.lenS (xt := 77) (r := (none, 3, true)) rfl kr) ?_ | refine AL.g (OQ.lenS (xt := 45) (r := (none, 2, true)) rfl kr) ?_) | ((with_reducible refine AL.k_binOp ?_); first | refine AL.g (OQ.gtr rfl rfl) ?_ | refine AL.g (OQ.lss rfl rfl) ?_ | refine AL.g (OQ.neq rfl rfl) ?_ | refine AL.g (OQ.addi rfl rfl (by omega)) ?_ | refine AL.g (OQ.add rfl rfl) ?_ | refine AL.g (OQ.leq rfl rfl) ?_) | ((with_reducible refine AL.k_pick ?_); first | refine AL.pT ?_ | refine AL.pF ?_) | ((with_reducible refine AL.k_extract ?_); first | refine AL.et ?_) | ((with_reducible refine AL.k_unOp ?_); first | refine AL.g (OQ.not rfl) ?_)); refine AL.nm ?_) | ((first | ((with_reducible refine AL.k_call ?_); first | refine AL.pcall (g := 97) rfl kr rfl ((by exact hq1 _ k _ _ _ rfl rfl rfl)) ?_ | refine AL.pcall (g := 98) rfl kr rfl ((by first | exact Contains_n _ _ | exact hq2 _ k (by omega) 8 _ _ rfl rfl rfl)) ?_ | refine AL.pcall (g := 48) rfl kr rfl ((by exact hA k (by omega) _)) ?_ | refine AL.pcall (g := 95) rfl kr rfl (hB _) ?_ | refine AL.pcall (g := 89) rfl kr rfl (hW _) ?_ | refine AL.pcall (g := 99) rfl kr rfl ((by exact hC r (by omega) (by first | assumption | simp_all) _)) ?_) | ((with_reducible refine AL.k_fieldAddr ?_); first | refine AL.g (OQ.fieldA (ty := 81) (i := 0) (n := 2) (off := 0) (g := true) rfl kr (by decide)) ?_ | refine AL.g (OQ.fieldA (ty := 81) (i := 1) (n := 1) (off := 2) (g := false) rfl kr (by decide)) ?_ | refine AL.g (OQ.fieldA (ty := 79) (i := 0) (n := 1) (off := 0) (g := false) rfl kr (by decide)) ?_ | refine AL.g (OQ.fieldA (ty := 79) (i := 1) (n := 1) (off := 1) (g := false) rfl kr (by decide)) ?_) | ((with_reducible refine AL.k_indexAddr ?_); first | refine AL.g (OQ.idxAddr (ty := 77) (z := 3) (g := true) rfl rfl kr (by first | omega | decide) (by first | omega | decide)) ?_ | refine AL.g (OQ.idxAddr (ty := 45) (z := 2) (g := true) rfl rfl kr (by first | omega | decide) (by first | omega | decide)) ?_ | refine AL.g (OQ.idxPtr (ty := 52) (n := 1) (l := 2) (g := false) rfl rfl kr (by first | omega | decide) (by first | omega | decide)) ?_)); refine AL.nm ?_) | ((first | ((with_reducible refine AL.k_call ?_); first | refine AL.w rfl (by first | exact OW.appendNil (e := 52) (z := 2) (zs := [.int .i64 0, .int .i64 0]) (by' := 16) rfl rfl kr kr kr rfl kr (by decide) rfl (by decide) (by decide) | exact OW.appendL (e := 52) (z := 2) (zs := [.int .i64 0, .int .i64 0]) (by' := 16) rfl rfl kr kr kr rfl kr (by decide) rfl rfl rfl (by decide) (by first | exact hpl k (by omega) | exact hdl k | exact hcl _) rfl rfl (by omega) (by omega)) ?_ | refine AL.w rfl (by first | exact OW.appendNil (e := 3) (z := 1) (zs := [.int .i64 0]) (by' := 8) rfl rfl kr kr kr rfl kr (by decide) rfl (by decide) (by decide) | exact OW.appendL (e := 3) (z := 1) (zs := [.int .i64 0]) (by' := 8) rfl rfl kr kr kr rfl kr (by decide) rfl rfl rfl (by decide) (by first | exact hpl k (by omega) | exact hdl k | exact hcl _) rfl rfl (by omega) (by omega)) ?_) | ((with_reducible refine AL.k_buildSlice ?_); first | refine AL.w rfl (OW.buildSl (ty := 22) (zs := [.int .i64 0, .int .i64 0]) (n := 2) (g := true) kr kr rfl rfl rfl (by decide) (by decide) rfl rfl) ?_ | refine AL.w rfl (OW.buildSl (ty := 26) (zs := [.int .i64 0]) (n := 1) (g := false) kr kr rfl rfl rfl (by decide) (by decide) rfl rfl) ?_) | ((with_reducible refine AL.k_alloc ?_); first | refine AL.w rfl (OW.alloc (ty := 81) (z := [.int .i64 0, .int .i64 0, .slice none 0 0]) kr rfl) ?_ | refine AL.w rfl (OW.alloc (ty := 52) (z := [.int .i64 0, .int .i64 0]) kr rfl) ?_) | ((with_reducible refine AL.k_store ?_); first | (refine AL.w rfl (OW.store (ty := 81) (n := 3) rfl wl rfl rfl kr rfl rfl (by decide) rfl (Nat.le_of_ble_eq_true rfl) (by intro r h; cases h)) ?_) | (refine AL.w rfl (OW.store (ty := 52) (n := 2) rfl wl rfl rfl kr rfl rfl (by decide) rfl (Nat.le_of_ble_eq_true rfl) (by intro r h; cases h)) ?_)) | ((with_reducible refine AL.k_box ?_); first | refine AL.bx ?_)); refine AL.nm ?_; refine AL.nM ?_) | (refine AL.bs rfl (fun hc => ?_) (fun hc => ?_) <;> (fail_if_success (with_reducible exact lit_no hc)) <;> (try replace hc := nc hc) <;> first | (exfalso; first | contradiction | (first | omega | (simp at hc; done)); done) | refine AL.nm ?_) | refine AL.nil ?_) | ((with_reducible refine AW.on ?_); first | refine AW.seq ?_ | refine AW.skip ?_ | refine AW.exit ?_ | refine AW.ret ?_ | ((refine AW.block (id := 0) ?_); (refine AW.fk [0, 3, 6, 7, 20, 21, 22] ?_); (refine AW.loop (fun n' t' m => ∃ k : Nat, n' = S.length - k ∧ k ≤ S.length ∧ (∀ j, j < k → F j = 0) ∧ ((k = 0 ∧ t' = [.slice (some ⟨0, 0, none⟩) S.length c, jk, jk, .pointer (some ⟨7, 0, none⟩), jk, jk, .slice none 0 0, .slice none 0 0, jk, jk, jk, jk, jk, jk, jk, jk, jk, jk, jk, jk, .slice (some ⟨0, 0, none⟩) S.length c, .int .i64 (S.length), .int .i64 (k), jk, jk, jk, jk, jk, jk, jk, jk, jk, jk, jk, jk, jk, jk, jk, jk, jk, jk, jk, jk, jk, jk, jk, jk, jk, jk, jk, jk, jk, jk, jk, jk, jk, jk, jk, jk, jk, jk, jk, jk, jk, jk, jk, jk, jk, jk, jk, jk, jk, jk, jk, jk, jk, jk, jk, jk, jk, jk, jk, jk, jk, jk, jk, jk, jk, jk, jk, jk, jk, jk, jk, jk, jk, jk, jk, jk, jk, jk, jk, jk] ∧ m = [some ⟨flatS S, false, zq⟩, some ⟨flatN (a 0), false, yq 0⟩, some ⟨flatN (a 1), false, yq 1⟩, some ⟨flatN (a 2), false, yq 2⟩, some ⟨flatN (a 3), false, yq 3⟩, some ⟨flatN (a 4), false, yq 4⟩, some ⟨flatN (a 5), false, yq 5⟩, some ⟨[.int .i64 u, .int .i64 d], true, 0⟩]) ∨ (0 < k ∧ t' = [.slice (some ⟨0, 0, none⟩) S.length c, jk, jk, .pointer (some ⟨7, 0, none⟩), jk, jk, .slice (some ⟨8, 0, none⟩) (k) INF, .slice (some ⟨9, 0, none⟩) (k) INF, jk, jk, jk, jk, jk, jk, jk, jk, jk, jk, jk, jk, .slice (some ⟨0, 0, none⟩) S.length c, .int .i64 (S.length), .int .i64 (k), jk, jk, jk, jk, jk, jk, jk, jk, jk, jk, jk, jk, jk, jk, jk, jk, jk, jk, jk, jk, jk, jk, jk, jk, jk, jk, jk, jk, jk, jk, jk, jk, jk, jk, jk, jk, jk, jk, jk, jk, jk, jk, jk, jk, jk, jk, jk, jk, jk, jk, jk, jk, jk, jk, jk, jk, jk, jk, jk, jk, jk, jk, jk, jk, jk, jk, jk, jk, jk, jk, jk, jk, jk, jk, jk, jk, jk, jk, jk, jk] ∧ m = [some ⟨flatS S, false, zq⟩, some ⟨flatN (a 0), false, yq 0⟩, some ⟨flatN (a 1), false, yq 1⟩, some ⟨flatN (a 2), false, yq 2⟩, some ⟨flatN (a 3), false, yq 3⟩, some ⟨flatN (a 4), false, yq 4⟩, some ⟨flatN (a 5), false, yq 5⟩, some ⟨[.int .i64 u, .int .i64 d], true, 0⟩, some ⟨flatP ((psS S).take k), true, 2⟩, some ⟨flatP (dsP a k), true, 2⟩]))) (S.length) (by exact ⟨0, rfl, Nat.zero_le _, fun j h => absurd h (by omega), .inl ⟨rfl, rfl, rfl⟩⟩) ?_); (rintro n' t' m ⟨k, rfl, hk, hj, (⟨hk0, rfl, rfl⟩ | ⟨hk1, rfl, rfl⟩)⟩)) | ((refine AW.block (id := 2) ?_); (refine AW.fk [3, 14, 81, 82, 83] ?_); (refine AW.loop (fun n' t' m => ∃ r : Nat, n' = S.length - r ∧ r ≤ S.length ∧ ((CT r = [] ∧ t' = [jk, jk, jk, .pointer (some ⟨7, 0, none⟩), jk, jk, jk, jk, jk, jk, jk, jk, jk, jk, .slice none 0 0, jk, jk, jk, jk, jk, jk, jk, jk, jk, jk, jk, jk, jk, jk, jk, jk, jk, jk, jk, jk, jk, jk, jk, jk, jk, jk, jk, jk, jk, jk, jk, jk, jk, jk, jk, jk, jk, jk, jk, jk, jk, jk, jk, jk, jk, jk, jk, jk, jk, jk, jk, jk, jk, jk, jk, jk, jk, jk, jk, jk, jk, jk, jk, jk, jk, jk, .slice (some ⟨9, 0, none⟩) (S.length) INF, .int .i64 (S.length), .int .i64 (r), jk, jk, jk, jk, jk, jk, jk, jk, jk, jk, jk, jk, jk, jk, jk, jk, jk, jk, jk] ∧ m = [some ⟨flatS S, false, zq⟩, some ⟨flatN (a 0), false, yq 0⟩, some ⟨flatN (a 1), false, yq 1⟩, some ⟨flatN (a 2), false, yq 2⟩, some ⟨flatN (a 3), false, yq 3⟩, some ⟨flatN (a 4), false, yq 4⟩, some ⟨flatN (a 5), false, yq 5⟩, some ⟨[.int .i64 u, .int .i64 d], true, 0⟩, some ⟨flatP ((psS S).take S.length), true, 2⟩, some ⟨flatP (dsP a S.length), true, 2⟩]) ∨ (CT r ≠ [] ∧ t' = [jk, jk, jk, .pointer (some ⟨7, 0, none⟩), jk, jk, jk, jk, jk, jk, jk, jk, jk, jk, .slice (some ⟨10, 0, none⟩) ((CT r).length) INF, jk, jk, jk, jk, jk, jk, jk, jk, jk, jk, jk, jk, jk, jk, jk, jk, jk, jk, jk, jk, jk, jk, jk, jk, jk, jk, jk, jk, jk, jk, jk, jk, jk, jk, jk, jk, jk, jk, jk, jk, jk, jk, jk, jk, jk, jk, jk, jk, jk, jk, jk, jk, jk, jk, jk, jk, jk, jk, jk, jk, jk, jk, jk, jk, jk, jk, .slice (some ⟨9, 0, none⟩) (S.length) INF, .int .i64 (S.length), .int .i64 (r), jk, jk, jk, jk, jk, jk, jk, jk, jk, jk, jk, jk, jk, jk, jk, jk, jk, jk, jk] ∧ m = [some ⟨flatS S, false, zq⟩, some ⟨flatN (a 0), false, yq 0⟩, some ⟨flatN (a 1), false, yq 1⟩, some ⟨flatN (a 2), false, yq 2⟩, some ⟨flatN (a 3), false, yq 3⟩, some ⟨flatN (a 4), false, yq 4⟩, some ⟨flatN (a 5), false, yq 5⟩, some ⟨[.int .i64 u, .int .i64 d], true, 0⟩, some ⟨flatP ((psS S).take S.length), true, 2⟩, some ⟨flatP (dsP a S.length), true, 2⟩, some ⟨flatN (CT r), true, 1⟩]))) (S.length) (by exact ⟨0, rfl, Nat.zero_le _, .inl ⟨hT0, rfl, rfl⟩⟩) ?_); (rintro n' t' m ⟨r, rfl, hr, (⟨hr0, rfl, rfl⟩ | ⟨hr1, rfl, rfl⟩)⟩)) | refine AW.block ?_ | (refine AW.drawF (id := 16) 8 #[0, 0, 2, 6, 15, 0, 0, 64, 255, 511, 1023] kr kr ?_; (conv => (arg 8; simp only [List.take_succ_cons, List.take_zero]))) | (refine AW.region (id := 18) ?_; ((obtain rfl : k = S.length := (by omega)))) | (refine AW.region (id := 28) ?_; ((have hq := hcb r))) | refine AW.region ?_ | (refine AW.conds rfl (fun hc => ?_) (fun hc => ?_) <;> (try replace hc := nc hc) <;> first | (exfalso; first | contradiction | (first | omega | (simp at hc; done)); done) | skip)) | ((with_reducible refine AF.on ?_); first | ((first | ((with_reducible refine AF.k_move ?_); first | (refine AF.q 0 (SW.q (OQ.move wl) rfl) ?_)) | ((with_reducible refine AF.k_load ?_); first | (refine AF.ql rfl (SW.q (OQ.loadN (ty := 65) (n := 2) rfl kr kr (by first | (first | rfl | (with_reducible apply hld; omega) | (with_reducible apply hld2; omega) | (apply hld; omega) | (apply hld2; omega)) | rfl)) rfl) ?_) | (refine AF.ql rfl (SW.q (OQ.loadN (ty := 52) (n := 2) rfl kr kr (by first | (first | rfl | (with_reducible apply hld; omega) | (with_reducible apply hld2; omega) | (apply hld; omega) | (apply hld2; omega)) | rfl)) rfl) ?_)) | ((with_reducible refine AF.k_fieldAddr ?_); first | refine AF.q 0 (SW.q (OQ.fieldA (ty := 81) (i := 0) (n := 2) (off := 0) (g := true) rfl kr (by decide)) rfl) ?_)); refine AF.nm ?_) | ((first | ((with_reducible refine AF.k_call ?_); first | refine AF.al rfl (SW.w (by first | exact OW.appendNil (e := 65) (z := 2) (zs := [.int .i64 0, .int .i64 0]) (by' := 16) rfl rfl kr kr kr rfl kr (by decide) rfl (by decide) (by decide) | exact OW.appendL (e := 65) (z := 2) (zs := [.int .i64 0, .int .i64 0]) (by' := 16) rfl rfl kr kr kr rfl kr (by decide) rfl rfl rfl (by decide) (by first | exact hpl k (by omega) | exact hdl k | exact hcl _) rfl rfl (by omega) (by omega)) rfl) rfl ?_ | refine AF.n1 2 (SW.w (by first | exact OW.appendNil (e := 65) (z := 2) (zs := [.int .i64 0, .int .i64 0]) (by' := 16) rfl rfl kr kr kr rfl kr (by decide) rfl (by decide) (by decide) | exact OW.appendL (e := 65) (z := 2) (zs := [.int .i64 0, .int .i64 0]) (by' := 16) rfl rfl kr kr kr rfl kr (by decide) rfl rfl rfl (by decide) (by first | exact hpl k (by omega) | exact hdl k | exact hcl _) rfl rfl (by omega) (by omega)) rfl) rfl ?_) | ((with_reducible refine AF.k_buildSlice ?_); first | refine AF.n1 0 (SW.w (OW.buildSl (ty := 22) (zs := [.int .i64 0, .int .i64 0]) (n := 2) (g := true) kr kr rfl rfl rfl (by decide) (by decide) rfl rfl) rfl) rfl ?_ | refine AF.n1 0 (SW.w (OW.buildSl (ty := 45) (zs := [.int .i64 0, .int .i64 0]) (n := 2) (g := true) kr kr rfl rfl rfl (by decide) (by decide) rfl rfl) rfl) rfl ?_)); refine AF.nm ?_; (conv => (arg 10; try tactic => exact nrmF))) | refine AF.nl ?_) | ((with_reducible refine ex_on ?_); first | ((have hg1 : G k = 0 := (by first | exact g00 k hk0 (by assumption) | exact g0 k (by omega) (by assumption) (by assumption)); have hj1 : ∀ j, j < k + 1 → F j = 0 := (fun j h => by rcases Nat.lt_or_eq_of_le (Nat.le_of_lt_succ h) with h | rfl; (exact hj j h); (exact hs0 _ hg1 (by first | assumption | simp_all))); first | (have hz := hc0 k hk0; have hy := hda 0; obtain rfl := hk0; refine ⟨S.length - 1, [.slice (some ⟨0, 0, none⟩) S.length c, jk, jk, .pointer (some ⟨7, 0, none⟩), jk, jk, .slice (some ⟨8, 0, none⟩) (1) INF, .slice (some ⟨9, 0, none⟩) (1) INF, jk, jk, jk, jk, jk, jk, jk, jk, jk, jk, jk, jk, .slice (some ⟨0, 0, none⟩) S.length c, .int .i64 (S.length), .int .i64 (((0 + 1 : Nat) : Int)), jk, jk, jk, jk, jk, jk, jk, jk, jk, jk, jk, jk, jk, jk, jk, jk, jk, jk, jk, jk, jk, jk, jk, jk, jk, jk, jk, jk, jk, jk, jk, jk, jk, jk, jk, jk, jk, jk, jk, jk, jk, jk, jk, jk, jk, jk, jk, jk, jk, jk, jk, jk, jk, jk, jk, jk, jk, jk, jk, jk, jk, jk, jk, jk, jk, jk, jk, jk, jk, jk, jk, jk, jk, jk, jk, jk, jk, jk, jk, jk], [some ⟨flatS S, false, zq⟩, some ⟨flatN (a 0), false, yq 0⟩, some ⟨flatN (a 1), false, yq 1⟩, some ⟨flatN (a 2), false, yq 2⟩, some ⟨flatN (a 3), false, yq 3⟩, some ⟨flatN (a 4), false, yq 4⟩, some ⟨flatN (a 5), false, yq 5⟩, some ⟨[.int .i64 u, .int .i64 d], true, 0⟩, some ⟨[.int .i64 (sc S 0).1.x, .int .i64 (sc S 0).1.y], true, 2⟩, some ⟨[.int .i64 (dsA (a 0)), .int .i64 (dsB (a 0))], true, 2⟩], by omega, ?_, 0 + 1, rfl, by omega, hj1, .inr ⟨by omega, rfl, by rw [hz, ← hy]; rfl⟩⟩; exact Wk.keep 8 [12, 14] (by rw [hE]; exact Nat.le_of_ble_eq_true rfl) rfl rfl (by repeat (first | exact RenT.nil | refine RenT.jk ?_ | refine RenT.val (by first | rfl | with_reducible assumption | (simp only [rn3, rn2, rn1, kσ]; done)) (by first | rfl | assumption | (simp [ok3, ok2, ok1]; done)) ?_)) ⟨⟨_, rfl, rfl, rfl, cells_keep (hk7 _ (Nat.le_of_ble_eq_true rfl)) (Nat.le_of_ble_eq_true rfl)⟩, kl rfl (flatN_scal _), kl rfl (flatN_scal _), kl rfl (flatN_scal _), kl rfl (flatN_scal _), kl rfl (flatN_scal _), kl rfl (flatN_scal _), kl rfl rfl, kl rfl rfl, kl rfl rfl, trivial⟩) | (have hz := hck k (by omega); have hy := hda k; refine ⟨S.length - (k + 1), [.slice (some ⟨0, 0, none⟩) S.length c, jk, jk, .pointer (some ⟨7, 0, none⟩), jk, jk, .slice (some ⟨8, 0, none⟩) (k + 1) INF, .slice (some ⟨9, 0, none⟩) (k + 1) INF, jk, jk, jk, jk, jk, jk, jk, jk, jk, jk, jk, jk, .slice (some ⟨0, 0, none⟩) S.length c, .int .i64 (S.length), .int .i64 (((k + 1 : Nat) : Int)), jk, jk, jk, jk, jk, jk, jk, jk, jk, jk, jk, jk, jk, jk, jk, jk, jk, jk, jk, jk, jk, jk, jk, jk, jk, jk, jk, jk, jk, jk, jk, jk, jk, jk, jk, jk, jk, jk, jk, jk, jk, jk, jk, jk, jk, jk, jk, jk, jk, jk, jk, jk, jk, jk, jk, jk, jk, jk, jk, jk, jk, jk, jk, jk, jk, jk, jk, jk, jk, jk, jk, jk, jk, jk, jk, jk, jk, jk, jk, jk], [some ⟨flatS S, false, zq⟩, some ⟨flatN (a 0), false, yq 0⟩, some ⟨flatN (a 1), false, yq 1⟩, some ⟨flatN (a 2), false, yq 2⟩, some ⟨flatN (a 3), false, yq 3⟩, some ⟨flatN (a 4), false, yq 4⟩, some ⟨flatN (a 5), false, yq 5⟩, some ⟨[.int .i64 u, .int .i64 d], true, 0⟩, some ⟨flatP ((psS S).take k) ++ [.int .i64 (sc S k).1.x, .int .i64 (sc S k).1.y], true, 2⟩, some ⟨flatP (dsP a k) ++ [.int .i64 (dsA (a k)), .int .i64 (dsB (a k))], true, 2⟩], by omega, ?_, k + 1, rfl, by omega, hj1, .inr ⟨by omega, rfl, by rw [hz, hy]⟩⟩; exact Wk.keep 8 [14, 16] (by rw [hE]; exact Nat.le_of_ble_eq_true rfl) rfl rfl (by repeat (first | exact RenT.nil | refine RenT.jk ?_ | refine RenT.val (by first | rfl | with_reducible assumption | (simp only [rn3, rn2, rn1, kσ]; done)) (by first | rfl | assumption | (simp [ok3, ok2, ok1]; done)) ?_)) ⟨⟨_, rfl, rfl, rfl, cells_keep (hk7 _ (Nat.le_of_ble_eq_true rfl)) (Nat.le_of_ble_eq_true rfl)⟩, kl rfl (flatN_scal _), kl rfl (flatN_scal _), kl rfl (flatN_scal _), kl rfl (flatN_scal _), kl rfl (flatN_scal _), kl rfl (flatN_scal _), kl rfl rfl, ⟨_, rfl, rfl, rfl, .inl ⟨rfl, by rw [List.all_append, flatP_scal]; rfl⟩⟩, ⟨_, rfl, rfl, rfl, .inl ⟨rfl, by rw [List.all_append, flatP_scal]; rfl⟩⟩, trivial⟩))) | (first | (have hz := cY r (by assumption); rw [hr0] at hz; refine ⟨S.length - (r + 1), [jk, jk, jk, .pointer (some ⟨7, 0, none⟩), jk, jk, jk, jk, jk, jk, jk, jk, jk, jk, .slice (some ⟨10, 0, none⟩) (1) INF, jk, jk, jk, jk, jk, jk, jk, jk, jk, jk, jk, jk, jk, jk, jk, jk, jk, jk, jk, jk, jk, jk, jk, jk, jk, jk, jk, jk, jk, jk, jk, jk, jk, jk, jk, jk, jk, jk, jk, jk, jk, jk, jk, jk, jk, jk, jk, jk, jk, jk, jk, jk, jk, jk, jk, jk, jk, jk, jk, jk, jk, jk, jk, jk, jk, jk, .slice (some ⟨9, 0, none⟩) (S.length) INF, .int .i64 (S.length), .int .i64 (((r + 1 : Nat) : Int)), jk, jk, jk, jk, jk, jk, jk, jk, jk, jk, jk, jk, jk, jk, jk, jk, jk, jk, jk], [some ⟨flatS S, false, zq⟩, some ⟨flatN (a 0), false, yq 0⟩, some ⟨flatN (a 1), false, yq 1⟩, some ⟨flatN (a 2), false, yq 2⟩, some ⟨flatN (a 3), false, yq 3⟩, some ⟨flatN (a 4), false, yq 4⟩, some ⟨flatN (a 5), false, yq 5⟩, some ⟨[.int .i64 u, .int .i64 d], true, 0⟩, some ⟨flatP ((psS S).take S.length), true, 2⟩, some ⟨flatP (dsP a S.length), true, 2⟩, some ⟨[.int .i64 ((r : Nat) : Int)], true, 1⟩], by omega, ?_, r + 1, rfl, by omega, .inr ⟨by rw [hz]; simp, by rw [hz]; rfl, by rw [hz]; rfl⟩⟩; exact Wk.keep 10 [12] (by rw [hE]; exact Nat.le_of_ble_eq_true rfl) rfl rfl (by repeat (first | exact RenT.nil | refine RenT.jk ?_ | refine RenT.val (by first | rfl | with_reducible assumption | (simp only [rn3, rn2, rn1, kσ]; done)) (by first | rfl | assumption | (simp [ok3, ok2, ok1]; done)) ?_)) ⟨⟨_, rfl, rfl, rfl, cells_keep (hk7 _ (Nat.le_of_ble_eq_true rfl)) (Nat.le_of_ble_eq_true rfl)⟩, kl rfl (flatN_scal _), kl rfl (flatN_scal _), kl rfl (flatN_scal _), kl rfl (flatN_scal _), kl rfl (flatN_scal _), kl rfl (flatN_scal _), kl rfl rfl, kl rfl (flatP_scal _), kl rfl (flatP_scal _), kl rfl rfl, trivial⟩) | (have hz := cY r (by assumption); refine ⟨S.length - (r + 1), [jk, jk, jk, .pointer (some ⟨7, 0, none⟩), jk, jk, jk, jk, jk, jk, jk, jk, jk, jk, .slice (some ⟨10, 0, none⟩) ((CT r).length + 1) INF, jk, jk, jk, jk, jk, jk, jk, jk, jk, jk, jk, jk, jk, jk, jk, jk, jk, jk, jk, jk, jk, jk, jk, jk, jk, jk, jk, jk, jk, jk, jk, jk, jk, jk, jk, jk, jk, jk, jk, jk, jk, jk, jk, jk, jk, jk, jk, jk, jk, jk, jk, jk, jk, jk, jk, jk, jk, jk, jk, jk, jk, jk, jk, jk, jk, jk, .slice (some ⟨9, 0, none⟩) (S.length) INF, .int .i64 (S.length), .int .i64 (((r + 1 : Nat) : Int)), jk, jk, jk, jk, jk, jk, jk, jk, jk, jk, jk, jk, jk, jk, jk, jk, jk, jk, jk], [some ⟨flatS S, false, zq⟩, some ⟨flatN (a 0), false, yq 0⟩, some ⟨flatN (a 1), false, yq 1⟩, some ⟨flatN (a 2), false, yq 2⟩, some ⟨flatN (a 3), false, yq 3⟩, some ⟨flatN (a 4), false, yq 4⟩, some ⟨flatN (a 5), false, yq 5⟩, some ⟨[.int .i64 u, .int .i64 d], true, 0⟩, some ⟨flatP ((psS S).take S.length), true, 2⟩, some ⟨flatP (dsP a S.length), true, 2⟩, some ⟨flatN (CT r) ++ [.int .i64 ((r : Nat) : Int)], true, 1⟩], by omega, ?_, r + 1, rfl, by omega, .inr ⟨by rw [hz]; simp, by rw [hz, List.length_append]; rfl, by rw [hz, cfl]⟩⟩; exact Wk.keep 10 [13] (by rw [hE]; exact Nat.le_of_ble_eq_true rfl) rfl rfl (by repeat (first | exact RenT.nil | refine RenT.jk ?_ | refine RenT.val (by first | rfl | with_reducible assumption | (simp only [rn3, rn2, rn1, kσ]; done)) (by first | rfl | assumption | (simp [ok3, ok2, ok1]; done)) ?_)) ⟨⟨_, rfl, rfl, rfl, cells_keep (hk7 _ (Nat.le_of_ble_eq_true rfl)) (Nat.le_of_ble_eq_true rfl)⟩, kl rfl (flatN_scal _), kl rfl (flatN_scal _), kl rfl (flatN_scal _), kl rfl (flatN_scal _), kl rfl (flatN_scal _), kl rfl (flatN_scal _), kl rfl rfl, kl rfl (flatP_scal _), kl rfl (flatP_scal _), ⟨_, rfl, rfl, rfl, .inl ⟨rfl, by rw [List.all_append, flatN_scal]; rfl⟩⟩, trivial⟩) | (have hz := cN r (by assumption); refine ⟨S.length - (r + 1), [jk, jk, jk, .pointer (some ⟨7, 0, none⟩), jk, jk, jk, jk, jk, jk, jk, jk, jk, jk, .slice none 0 0, jk, jk, jk, jk, jk, jk, jk, jk, jk, jk, jk, jk, jk, jk, jk, jk, jk, jk, jk, jk, jk, jk, jk, jk, jk, jk, jk, jk, jk, jk, jk, jk, jk, jk, jk, jk, jk, jk, jk, jk, jk, jk, jk, jk, jk, jk, jk, jk, jk, jk, jk, jk, jk, jk, jk, jk, jk, jk, jk, jk, jk, jk, jk, jk, jk, jk, .slice (some ⟨9, 0, none⟩) (S.length) INF, .int .i64 (S.length), .int .i64 (((r + 1 : Nat) : Int)), jk, jk, jk, jk, jk, jk, jk, jk, jk, jk, jk, jk, jk, jk, jk, jk, jk, jk, jk], [some ⟨flatS S, false, zq⟩, some ⟨flatN (a 0), false, yq 0⟩, some ⟨flatN (a 1), false, yq 1⟩, some ⟨flatN (a 2), false, yq 2⟩, some ⟨flatN (a 3), false, yq 3⟩, some ⟨flatN (a 4), false, yq 4⟩, some ⟨flatN (a 5), false, yq 5⟩, some ⟨[.int .i64 u, .int .i64 d], true, 0⟩, some ⟨flatP ((psS S).take S.length), true, 2⟩, some ⟨flatP (dsP a S.length), true, 2⟩], by omega, ?_, r + 1, rfl, by omega, .inl ⟨hz.trans hr0, rfl, rfl⟩⟩; exact Wk.keep 10 [] (by rw [hE]; exact Nat.le_of_ble_eq_true rfl) rfl rfl (by repeat (first | exact RenT.nil | refine RenT.jk ?_ | refine RenT.val (by first | rfl | with_reducible assumption | (simp only [rn3, rn2, rn1, kσ]; done)) (by first | rfl | assumption | (simp [ok3, ok2, ok1]; done)) ?_)) ⟨⟨_, rfl, rfl, rfl, cells_keep (hk7 _ (Nat.le_of_ble_eq_true rfl)) (Nat.le_of_ble_eq_true rfl)⟩, kl rfl (flatN_scal _), kl rfl (flatN_scal _), kl rfl (flatN_scal _), kl rfl (flatN_scal _), kl rfl (flatN_scal _), kl rfl (flatN_scal _), kl rfl rfl, kl rfl (flatP_scal _), kl rfl (flatP_scal _), trivial⟩) | (have hz := cN r (by assumption); refine ⟨S.length - (r + 1), [jk, jk, jk, .pointer (some ⟨7, 0, none⟩), jk, jk, jk, jk, jk, jk, jk, jk, jk, jk, .slice (some ⟨10, 0, none⟩) ((CT r).length) INF, jk, jk, jk, jk, jk, jk, jk, jk, jk, jk, jk, jk, jk, jk, jk, jk, jk, jk, jk, jk, jk, jk, jk, jk, jk, jk, jk, jk, jk, jk, jk, jk, jk, jk, jk, jk, jk, jk, jk, jk, jk, jk, jk, jk, jk, jk, jk, jk, jk, jk, jk, jk, jk, jk, jk, jk, jk, jk, jk, jk, jk, jk, jk, jk, jk, jk, .slice (some ⟨9, 0, none⟩) (S.length) INF, .int .i64 (S.length), .int .i64 (((r + 1 : Nat) : Int)), jk, jk, jk, jk, jk, jk, jk, jk, jk, jk, jk, jk, jk, jk, jk, jk, jk, jk, jk], [some ⟨flatS S, false, zq⟩, some ⟨flatN (a 0), false, yq 0⟩, some ⟨flatN (a 1), false, yq 1⟩, some ⟨flatN (a 2), false, yq 2⟩, some ⟨flatN (a 3), false, yq 3⟩, some ⟨flatN (a 4), false, yq 4⟩, some ⟨flatN (a 5), false, yq 5⟩, some ⟨[.int .i64 u, .int .i64 d], true, 0⟩, some ⟨flatP ((psS S).take S.length), true, 2⟩, some ⟨flatP (dsP a S.length), true, 2⟩, some ⟨flatN (CT r), true, 1⟩], by omega, ?_, r + 1, rfl, by omega, .inr ⟨by rw [hz]; exact hr1, by rw [hz], by rw [hz]⟩⟩; exact Wk.keep 10 [10] (by rw [hE]; exact Nat.le_of_ble_eq_true rfl) rfl rfl (by repeat (first | exact RenT.nil | refine RenT.jk ?_ | refine RenT.val (by first | rfl | with_reducible assumption | (simp only [rn3, rn2, rn1, kσ]; done)) (by first | rfl | assumption | (simp [ok3, ok2, ok1]; done)) ?_)) ⟨⟨_, rfl, rfl, rfl, cells_keep (hk7 _ (Nat.le_of_ble_eq_true rfl)) (Nat.le_of_ble_eq_true rfl)⟩, kl rfl (flatN_scal _), kl rfl (flatN_scal _), kl rfl (flatN_scal _), kl rfl (flatN_scal _), kl rfl (flatN_scal _), kl rfl (flatN_scal _), kl rfl rfl, kl rfl (flatP_scal _), kl rfl (flatP_scal _), kl rfl (flatN_scal _), trivial⟩))) | ((with_reducible refine FinA.on ?_); first | (obtain ⟨w1, w2⟩ := g2 k (by omega) (by assumption); obtain ⟨q1, q2⟩ := f1 k (by omega) hj (by omega); rw [w2] at q1; rw [w1]; rw [q1, q2, oV_n, oB_n]; refine FinA.keep 7 [7] (.inl rfl) (.tmp wl (.tmp wl .nil)) ?_ rfl (Nat.le_of_eq hE) rfl rfl ⟨⟨_, rfl, rfl, rfl, cells_keep (hk7 _ (Nat.le_of_ble_eq_true rfl)) (Nat.le_of_ble_eq_true rfl)⟩, kl rfl (flatN_scal _), kl rfl (flatN_scal _), kl rfl (flatN_scal _), kl rfl (flatN_scal _), kl rfl (flatN_scal _), kl rfl (flatN_scal _), trivial⟩; rfl) | (have w2 := g5 k (by omega) (by assumption) (by assumption); obtain ⟨q1, q2⟩ := f1 k (by omega) hj (by omega); rw [w2] at q1; rw [q1, q2, oV_n, oB_n]; refine FinA.keep 7 [7] (.inl rfl) (.tmp wl (.tmp wl .nil)) ?_ rfl (Nat.le_of_eq hE) rfl rfl ⟨⟨_, rfl, rfl, rfl, cells_keep (hk7 _ (Nat.le_of_ble_eq_true rfl)) (Nat.le_of_ble_eq_true rfl)⟩, kl rfl (flatN_scal _), kl rfl (flatN_scal _), kl rfl (flatN_scal _), kl rfl (flatN_scal _), kl rfl (flatN_scal _), kl rfl (flatN_scal _), trivial⟩; rfl) | (have w2 : G k = 0 := (by first | exact g00 k hk0 (by assumption) | exact g0 k (by omega) (by assumption) (by assumption)); obtain ⟨q1, q2⟩ := f2 k (by omega) hj w2 (by assumption); rw [q1, q2, oV_n, oB_n]; refine FinA.keep 7 [7] (.inl rfl) (.tmp wl (.tmp wl .nil)) ?_ rfl (Nat.le_of_eq hE) rfl rfl ⟨⟨_, rfl, rfl, rfl, cells_keep (hk7 _ (Nat.le_of_ble_eq_true rfl)) (Nat.le_of_ble_eq_true rfl)⟩, kl rfl (flatN_scal _), kl rfl (flatN_scal _), kl rfl (flatN_scal _), kl rfl (flatN_scal _), kl rfl (flatN_scal _), kl rfl (flatN_scal _), trivial⟩; rfl) | (have w1 : d ≤ 0 := (by omega); obtain ⟨q1, q2⟩ := f3 hj 3 (hb1 w1) (by decide); rw [q1, q2, oV_n, oB_n]; refine FinA.keep 7 [7] (.inl rfl) (.tmp wl (.tmp wl .nil)) ?_ rfl (Nat.le_of_eq hE) rfl rfl ⟨⟨_, rfl, rfl, rfl, cells_keep (hk7 _ (Nat.le_of_ble_eq_true rfl)) (Nat.le_of_ble_eq_true rfl)⟩, kl rfl (flatN_scal _), kl rfl (flatN_scal _), kl rfl (flatN_scal _), kl rfl (flatN_scal _), kl rfl (flatN_scal _), kl rfl (flatN_scal _), trivial⟩; rfl) | (have w1 : ¬ DV = 1 := (by omega); have w2 : ¬ DV = -1 := (by omega); obtain ⟨q1, q2⟩ := f3 hj 3 (hb1b w1 w2) (by decide); rw [q1, q2, oV_n, oB_n]; refine FinA.keep 7 [7] (.inl rfl) (.tmp wl (.tmp wl .nil)) ?_ rfl (Nat.le_of_eq hE) rfl rfl ⟨⟨_, rfl, rfl, rfl, cells_keep (hk7 _ (Nat.le_of_ble_eq_true rfl)) (Nat.le_of_ble_eq_true rfl)⟩, kl rfl (flatN_scal _), kl rfl (flatN_scal _), kl rfl (flatN_scal _), kl rfl (flatN_scal _), kl rfl (flatN_scal _), kl rfl (flatN_scal _), trivial⟩; rfl) | (have w3 := hw2 (by assumption); have w1 : 0 < d := (by omega); have w2 : DV = 1 ∨ DV = -1 := (by omega); obtain ⟨q1, q2⟩ := f3 hj 2 (hb2 w1 w2 (fun h => w3 h.1)) (by decide); rw [q1, q2, oV_n, oB_n]; refine FinA.keep 7 [7] (.inl rfl) (.tmp wl (.tmp wl .nil)) ?_ rfl (Nat.le_of_eq hE) rfl rfl ⟨⟨_, rfl, rfl, rfl, cells_keep (hk7 _ (Nat.le_of_ble_eq_true rfl)) (Nat.le_of_ble_eq_true rfl)⟩, kl rfl (flatN_scal _), kl rfl (flatN_scal _), kl rfl (flatN_scal _), kl rfl (flatN_scal _), kl rfl (flatN_scal _), kl rfl (flatN_scal _), trivial⟩; rfl) | (have w1 : 0 < d := (by omega); have w2 : DV = 1 ∨ DV = -1 := (by omega); have w3 : 1000000000 < d := (by omega); obtain ⟨q1, q2⟩ := f3 hj 2 (hb2 w1 w2 (by omega)) (by decide); rw [q1, q2, oV_n, oB_n]; refine FinA.keep 7 [7] (.inl rfl) (.tmp wl (.tmp wl .nil)) ?_ rfl (Nat.le_of_eq hE) rfl rfl ⟨⟨_, rfl, rfl, rfl, cells_keep (hk7 _ (Nat.le_of_ble_eq_true rfl)) (Nat.le_of_ble_eq_true rfl)⟩, kl rfl (flatN_scal _), kl rfl (flatN_scal _), kl rfl (flatN_scal _), kl rfl (flatN_scal _), kl rfl (flatN_scal _), kl rfl (flatN_scal _), trivial⟩; rfl) | (obtain rfl : r = S.length := (by omega); have w3 := hw1 (by assumption); have w1 : 0 < d := (by omega); have w2 : DV = 1 ∨ DV = -1 := (by omega); obtain ⟨q1, q2⟩ := f4 hj (hb3 w1 w2 ⟨w3, by omega⟩); rw [q1, q2, hr0, oV_n, oB_n]; refine FinA.keep 7 [7] (.inl rfl) (.tmp wl (.tmp wl .nil)) ?_ rfl (Nat.le_of_eq hE) rfl rfl ⟨⟨_, rfl, rfl, rfl, cells_keep (hk7 _ (Nat.le_of_ble_eq_true rfl)) (Nat.le_of_ble_eq_true rfl)⟩, kl rfl (flatN_scal _), kl rfl (flatN_scal _), kl rfl (flatN_scal _), kl rfl (flatN_scal _), kl rfl (flatN_scal _), kl rfl (flatN_scal _), trivial⟩; rfl) | (obtain rfl : r = S.length := (by omega); have w3 := hw1 (by assumption); have w1 : 0 < d := (by omega); have w2 : DV = 1 ∨ DV = -1 := (by omega); obtain ⟨q1, q2⟩ := f4 hj (hb3 w1 w2 ⟨w3, by omega⟩); rw [q1, q2, oV_s hr1, oB_s hr1]; refine FinA.keep 7 [10] (.inl rfl) (.tmp wl (.tmp wl .nil)) ?_ rfl (Nat.le_of_eq hE) rfl rfl ⟨⟨_, rfl, rfl, rfl, cells_keep (hk7 _ (Nat.le_of_ble_eq_true rfl)) (Nat.le_of_ble_eq_true rfl)⟩, kl rfl (flatN_scal _), kl rfl (flatN_scal _), kl rfl (flatN_scal _), kl rfl (flatN_scal _), kl rfl (flatN_scal _), kl rfl (flatN_scal _), kl rfl (flatN_scal _), trivial⟩; rfl)))
end Go.Proofs.YtmohcmghbfhdlaaGreat
end
end
/- Arguments of which lists are in memory, in the small memory. -/
section
set_option linter.unusedSimpArgs false
set_option linter.unusedVariables false
namespace Go.Ls
open Go.ChangeShapes Go.WideShapes Go.ChangeAt Go Go.RowKit Go.Ab
def plL (L : List (Option Addr × List Value)) (b : Nat) : Option Pl := match L[b]? with
 | some x => plX x.1 x.2
 | none => none
theorem glueL {P : Program} {f : FuncId} {args : List Value} {vals : Array Value} {w : World} (L : List (Option Addr × List Value)) (hs : ∀ x ∈ L, x.2.all scal = true ∧ SlX w x.1 x.2) (hv : VRel (plL L) (.tuple args.toArray) (.tuple vals))
  (h : PCalls P f args (L.map fun x => blX x.2) (.bool true)) : Calls P f vals w fun e w' => e = .returned (.bool true) ∧ Below w.heap.size w w' := by
 refine (h (plL L) _ w (fun b pl hb => ?_) hv (fun b blk hb => ?_)).mono fun e w' ⟨v', he, hr, hb⟩ => ⟨by rw [he, hr.bool], hb.below⟩
 ·unfold plL at hb
  cases hx : L[b]? with
  | none => rw [hx] at hb; cases hb
  | some x =>
   have := (List.getElem?_eq_some_iff.1 hx).1
   simpa using this
 ·have hlt := Mem.at_lt hb
  have hlt' : b < L.length := by simpa using hlt
  have hx : L[b]? = some L[b] := List.getElem?_eq_getElem hlt'
  obtain ⟨h1, h2⟩ := hs _ (List.getElem_mem hlt')
  have hb' : blX L[b].2 = some blk := by simpa [Mem.at, hx] using hb
  obtain ⟨pl, k1, k2⟩ := blX_rel (ρ := plL L) (i := b) h1 h2 (by unfold plL; rw [hx]) hb'
  exact ⟨pl, k1, k2, fun ho => by rw [blX_ro _ _ hb'] at ho; cases ho⟩
section
variable {H : Type} {enc : TypeId × Value → H} {P : Program}
theorem post_below {f : Func} {s : ChangeSpec} {apart fresh handsOn again : Bool} {W W' : World} {args : Array Value} {v : Value} {ds gs : List (DataW H)} {before pa pv : List MemPlace}
  (hW : DataW.Whole enc P f.params.toList s.vars apart W args.toList ds gs before)
  (hres : ∀ (b : Nat) (sp : Nat → Bool) (hd : Bool), DataW.TrodAll enc P W' b sp hd f.resultTypes.toList (v.resultList f.resultTypes.size) (s.fn H (ds ++ gs)).results [])
  (hargs : ∀ sp : Nat → Bool, (∀ p ∈ before, sp p.block = true) → DataW.TrodAll enc P W' 0 sp true f.params.toList args.toList (s.fn H (ds ++ gs)).args pa)
  (hvars : ∀ sp : Nat → Bool, (∀ p ∈ before, sp p.block = true) → DataW.TrodVars enc P W' sp s.vars (s.fn H (ds ++ gs)).vars pv)
  (hps : before = pa ++ pv) (hb : Below W.heap.size W W')
  (hok : ∀ (j : Nat) (t : TypeId) (r : Value), f.resultTypes[j]? = some t → (v.resultList f.resultTypes.size)[j]? = some r → Value.okWide P W' .any 0 t r) :
  s.post enc P f apart fresh handsOn again W args v W' := by
 have hlt : ∀ p ∈ before, p.block < W.heap.size := fun p hp => hW.lt p hp
 have hold : ∀ p ∈ before, (fun b => decide (b < W.heap.size)) p.block = true := fun p hp => by simpa using hlt p hp
 refine ⟨ds, gs, before, [], pa, pv, hW, hres _ _ _, hargs _ hold, hvars _ hold, World.keptBut_mono (fun p hp => ⟨hp, ?_⟩) (hb.frame (· ∈ before)), fun _ => ?_⟩
 ·rw [hps, List.mem_append] at hp
  exact Or.inr hp
 ·obtain ⟨_, _, _, _, _, hz, hn⟩ := hW
  refine ⟨hok, _, _, ([] ++ pa) ++ pv, ⟨[] ++ pa, pv, trodAll_append (hargs _ (fun _ _ => rfl)) (hres _ _ _), hvars _ (fun _ _ => rfl), rfl, ?_, ?_⟩, ?_⟩
  ·intro b off hp
   have hin : MemPlace.cell b off ∈ before := by rw [hps]; simpa using hp
   rw [hb.frozen (hlt _ hin)]
   exact hz b off hin
  ·intro ha
   have := hn ha
   rw [hps] at this
   simpa using this
  ·intro p hp _
   rw [hps]
   simpa using hp
end
end Go.Ls
end
/- How the arguments of the statements of chapter 6 read. -/
section
set_option linter.unusedSimpArgs false
set_option linter.unusedVariables false
section
namespace Go.Proofs.YtmohcmghbfhdlaaGreat
open Go.ChangeShapes Go.WideShapes Go.ChangeAt Go Go.RowKit Go.Ab Go.Ls Go.Me
set_option maxRecDepth 100000
theorem laid : laidOutB Tryz.prog = true := by kernel_rfl
theorem own : ownKnob Tryz.prog.godebug = none := by kernel_rfl
theorem ints_mp : intsT Tryz.prog 4 65 = true := by kernel_rfl
end Go.Proofs.YtmohcmghbfhdlaaGreat
end
end
/- How a net that is an argument of the statements of chapter 6 reads. -/
section
set_option linter.unusedSimpArgs false
set_option linter.unusedVariables false
section
namespace Go.Proofs.YtmohcmghbfhdlaaGreat
open Go.ChangeShapes Go.WideShapes Go.ChangeAt Go Go.RowKit Go.Ab Go.Ls Go.Me
set_option maxRecDepth 100000
end Go.Proofs.YtmohcmghbfhdlaaGreat
end
end
/- How a list of numbers that is an argument of the statements of chapter 6 reads. -/
section
set_option linter.unusedSimpArgs false
set_option linter.unusedVariables false
section
namespace Go.Proofs.YtmohcmghbfhdlaaGreat
open Go.ChangeShapes Go.WideShapes Go.ChangeAt Go Go.RowKit Go.Ab Go.Ls Go.Me
set_option maxRecDepth 100000
def mkN (f : Nat → Int) : Int := f 0
theorem cells_int : Tryz.prog.cellsOf 3 = 1 := by kernel_rfl
theorem ints_int : intsT Tryz.prog 4 3 = true := by kernel_rfl
end Go.Proofs.YtmohcmghbfhdlaaGreat
end
end
/- How a task, and turns with potentials, that are arguments of the statements of chapter 6 read. -/
section
set_option linter.unusedSimpArgs false
set_option linter.unusedVariables false
section
namespace Go.Proofs.YtmohcmghbfhdlaaGreat
open Go.ChangeShapes Go.WideShapes Go.ChangeAt Go Go.RowKit Go.Ab Go.Ls Go.Me
set_option maxRecDepth 100000
end Go.Proofs.YtmohcmghbfhdlaaGreat
end
end
/- MeshDisperses: how scatterers that are an argument read: a list of values with lists inside. -/
section
set_option linter.unusedSimpArgs false
set_option linter.unusedVariables false
section
namespace Go.Me
open Go.Ab Go.Ls
theorem add2 (b off k j : Nat) : ((⟨b, off, none⟩ : Addr).add k).add j = ⟨b, off + k + j, none⟩ := by
 unfold Addr.add
 by_cases h1 : k = 0 <;> by_cases h2 : j = 0 <;> simp [h1, h2] <;> omega
structure ScX (w : World) (a : Option Addr) (n cap : Nat) (X : Nat → Pn) (am : Nat → Option Addr) (A : Nat → List Int) (C : Nat → Nat) : Prop where
 le : n ≤ cap
 cm : cap ≤ maxLen
 z : a = none → cap = 0
 row : 0 < n → ∃ b off, a = some ⟨b, off, none⟩ ∧ b < w.heap.size ∧ ∀ i, i < n → w.cell? ⟨b, off + i * 3 + 0, none⟩ = some (.int .i64 (X i).x) ∧ w.cell? ⟨b, off + i * 3 + 1, none⟩ = some (.int .i64 (X i).y) ∧ w.cell? ⟨b, off + i * 3 + 2, none⟩ = some (.slice (am i) (A i).length (C i))
 ins : ∀ i, i < n → (A i).length ≤ C i ∧ C i ≤ maxLen ∧ SlX w (am i) (flatN (A i)) ∧ (am i = none → C i = 0)
end Go.Me
namespace Go.Proofs.YtmohcmghbfhdlaaGreat
open Go.ChangeShapes Go.WideShapes Go.ChangeAt Go Go.RowKit Go.Ab Go.Ls Go.Me
set_option maxRecDepth 100000
theorem cells_sc : Tryz.prog.cellsOf 81 = 3 := by kernel_rfl
theorem open_SC {H : Type} {enc : TypeId × Value → H} {w : World} {base : Nat} {spare : Nat → Bool} {held : Bool} {r : Reach} {b0 : Nat} {v : Value} {d : DataW H} {p : List MemPlace} (hv : Value.okWide Tryz.prog w r b0 77 v) (h : DataW.Trod enc Tryz.prog w base spare held 77 v d p) :
  ∃ a n cap X am A C, v = .slice a n cap ∧ ScX w a n cap X am A C := by
 obtain ⟨a0, len0, cap0, rfl⟩ := okWide_slice Tryz.underlying77 hv
 obtain ⟨fuel, hf⟩ := h
 rcases Go.Deep.open_slice Tryz.underlying77 hf with ⟨h1, _⟩ | ⟨a, len, cap, m, k, D, Pl, hcs, hb, hl, hm, hmm, hx, hi⟩
 ·have h1 : [Value.slice a0 len0 cap0] = [.slice none 0 0] := h1
  injection h1 with h1 _
  injection h1 with e1 e2 e3
  subst e1 e2 e3
  exact ⟨none, 0, 0, fun _ => ⟨0, 0⟩, fun _ => none, fun _ => [], fun _ => 0, rfl, by omega, by simp [maxLen], fun _ => rfl, fun h => by omega, fun i h => by omega⟩
 ·have hcs : [Value.slice a0 len0 cap0] = [.slice (some a) len cap] := hcs
  injection hcs with hcs _
  injection hcs with e1 e2 e3
  subst e1
  obtain rfl := e2.symm
  obtain rfl := e3.symm
  have hlm : len ≤ m := by rw [hmm]; split <;> omega
  have hG : ∀ i, ∃ r : Pn × Option Addr × List Int × Nat, i < len → (w.cell? ((a.add (i * 3)).add 0) = some (.int .i64 r.1.x) ∧ w.cell? ((a.add (i * 3)).add 1) = some (.int .i64 r.1.y) ∧ w.cell? ((a.add (i * 3)).add 2) = some (.slice r.2.1 r.2.2.1.length r.2.2.2)) ∧ r.2.2.1.length ≤ r.2.2.2 ∧ r.2.2.2 ≤ maxLen ∧ SlX w r.2.1 (flatN r.2.2.1) ∧ (r.2.1 = none → r.2.2.2 = 0) := fun i => by
   by_cases hil : i < len
   ·obtain ⟨cs', hc', ht'⟩ := hi i (by omega)
    rw [cells_sc] at hc'
    obtain ⟨_, hcl, hat⟩ := World.cells?_some hc'
    match cs', hcl with
    | [c0, c1, c2], _ =>
     obtain ⟨xs, n, _, hx, _, hlen, hg⟩ := DataW.trod_struct Tryz.underlying81 ht'
     match xs, hlen with
     | [y0, y1], _ =>
      have g0 : DataW.trod enc Tryz.prog w base spare held n 65 [c0, c1] = some y0 := hg 0 _ rfl
      have g1 : DataW.trod enc Tryz.prog w base spare held n 26 [c2] = some y1 := hg 1 _ rfl
      obtain ⟨x, hx0, _⟩ := ints_of 4 _ _ _ _ ints_mp g0 c0 (by simp)
      obtain ⟨y, hy0, _⟩ := ints_of 4 _ _ _ _ ints_mp g0 c1 (by simp)
      obtain ⟨e, l, ca, he, m1, m2, m3, m4, _⟩ := open_ints numC (fun _ => rfl) mkN (fun f j hj => match j, hj with | 0, _ => rfl) Tryz.underlying26 cells_int (by decide) ints_int g1
      have q0 := hat 0 (by decide)
      have q1 := hat 1 (by decide)
      have q2 := hat 2 (by decide)
      subst hx0 hy0 he
      exact ⟨(⟨x, y⟩, e, l, ca), fun _ => ⟨⟨q0, q1, q2⟩, m1, m2, flatN_flat l ▸ m3, m4⟩⟩
   ·exact ⟨(⟨0, 0⟩, none, [], 0), fun h => absurd h hil⟩
  obtain ⟨f, hf⟩ := Classical.axiomOfChoice hG
  refine ⟨some a, len, cap, fun i => (f i).1, fun i => (f i).2.1, fun i => (f i).2.2.1, fun i => (f i).2.2.2, rfl, hl, hm, fun h => (by cases h), fun h0 => ?_, fun i hil => (hf i hil).2⟩
  have hz0 := (hf 0 h0).1.1
  have hs : a.spot = none := by
   have := spot_none hz0
   simpa [Addr.add] using this
  obtain ⟨b, off, sp⟩ := a
  simp only at hs
  subst hs
  refine ⟨b, off, rfl, World.block_lt_of_cell? w _ (by simpa [Addr.add] using hz0), fun i hil => ?_⟩
  have := (hf i hil).1
  rw [add2, add2, add2] at this
  exact this
end Go.Proofs.YtmohcmghbfhdlaaGreat
end
end
