/- Chapter 6: the reference's sums around a triangle, differences and closures. -/
import Derived.Test.YtmohcmghbfhdlaaGreatQd
import Derived.Test.YtmohcmghbfhdlaaGreatQx
import Derived.Test.YtmohcmghbfhdlaaGreatQp
import Derived.Test.YtmohcmghbfhdlaaGreatQe
section
set_option linter.unusedSimpArgs false
set_option linter.unusedVariables false
section
namespace Go.Me
open Go.Ab Go.Proofs.YtmohcmghbfhdlaaGreat
def arK (ts : List T3) (xs : List Int) (i : Int) : Nat → Int
 | 0 => 0
 | k + 1 => arK ts xs i k + (if (pt (sdL ts) k).x = i then nt xs k else 0) - (if (pt (sdL ts) k).y = i then nt xs k else 0)
theorem arK_smL {ts : List T3} {xs : List Int} {i : Nat} (hi : i < ts.length) : ∀ k, k ≤ (edL ts).length → arK ts xs i k = nt (smL ts xs k) i
 | 0, _ => by
  unfold arK smL nt
  rw [List.getD_eq_getElem?_getD, List.getElem?_replicate, if_pos hi]
  rfl
 | k + 1, hk => by
  have ih := arK_smL (xs := xs) hi k (by omega)
  have hl := smL_len ts xs k
  obtain ⟨⟨r1, r2⟩, r3, r4⟩ := sdP_rng ts (pt (edL ts) k)
  unfold arK
  rw [ih, sdL_pt (show k < (edL ts).length by omega)]
  by_cases h1 : (sdP ts (pt (edL ts) k)).x = -1 <;> by_cases h2 : (sdP ts (pt (edL ts) k)).y = -1
  ·rw [smL_a h1 h2, if_neg (by omega), if_neg (by omega)]
   omega
  ·rw [smL_b h1 h2, nt_set (by omega), if_neg (c := (sdP ts (pt (edL ts) k)).x = (i : Int)) (by omega)]
   by_cases h3 : (sdP ts (pt (edL ts) k)).y = (i : Int)
   ·rw [if_pos h3, if_pos (by omega), show (sdP ts (pt (edL ts) k)).y.toNat = i by omega]
    omega
   ·rw [if_neg h3, if_neg (by omega)]
    omega
  ·rw [smL_c h1 h2, nt_set (by omega), if_neg (c := (sdP ts (pt (edL ts) k)).y = (i : Int)) (by omega)]
   by_cases h3 : (sdP ts (pt (edL ts) k)).x = (i : Int)
   ·rw [if_pos h3, if_pos (by omega), show (sdP ts (pt (edL ts) k)).x.toNat = i by omega]
    omega
   ·rw [if_neg h3, if_neg (by omega)]
    omega
  ·rw [smL_d h1 h2, nt_set (by rw [List.length_set]; omega), nt_set (by omega), nt_set (by omega)]
   by_cases h3 : (sdP ts (pt (edL ts) k)).x = (i : Int) <;> by_cases h4 : (sdP ts (pt (edL ts) k)).y = (i : Int)
   ·rw [if_pos h3, if_pos h4, if_pos (by omega), if_pos (by omega), show (sdP ts (pt (edL ts) k)).x.toNat = i by omega]
   ·rw [if_pos h3, if_neg h4, if_neg (by omega), if_pos (by omega), show (sdP ts (pt (edL ts) k)).x.toNat = i by omega]
    omega
   ·rw [if_neg h3, if_pos h4, if_pos (by omega), if_neg (by omega), show (sdP ts (pt (edL ts) k)).y.toNat = i by omega]
    omega
   ·rw [if_neg h3, if_neg h4, if_neg (by omega), if_neg (by omega)]
    omega
theorem arK_bd {ts : List T3} {xs : List Int} {i : Int} (hx : ∀ k, k < xs.length → -1000000000 ≤ nt xs k ∧ nt xs k ≤ 1000000000) : ∀ k, k ≤ xs.length → -(2000000000 * (k : Int)) ≤ arK ts xs i k ∧ arK ts xs i k ≤ 2000000000 * (k : Int)
 | 0, _ => by unfold arK; omega
 | k + 1, hk => by
  have h1 := arK_bd (ts := ts) (i := i) hx k (by omega)
  have h2 := hx k (by omega)
  unfold arK
  split <;> split <;> omega
end Go.Me
namespace Go.Proofs.YtmohcmghbfhdlaaGreat
open Go Go.RowKit Go.Ab Go.Me
set_option maxRecDepth 100000
set_option maxHeartbeats 4000000
attribute [local irreducible] OQ OW AL AW AF SW
theorem raround_0 (l : List Pn) (ts : List T3) (hR : NetR l ts) (xs : List Int) (hxl : xs.length = (edL ts).length) (hx : ∀ k, k < xs.length → -1000000000 ≤ nt xs k ∧ nt xs k ≤ 1000000000) (i : Nat) (c c2 c3 z : Nat) :
  PCalls Tryz.prog 70 [.agg #[.slice (some ⟨0, 0, none⟩) l.length c, .slice (some ⟨1, 0, none⟩) ts.length c2], .int .i64 i, .slice (some ⟨2, 0, none⟩) xs.length c3] [some ⟨flatP l, false, 0⟩, some ⟨flatT ts, false, 0⟩, some ⟨flatN xs, false, z⟩] (.int .i64 (arK ts xs i (edL ts).length)) := by
 have hrS := fun (m : Mem) (A B : Blk) (a1 : m.at 0 = some A) (a2 : A.cells = flatP l) (b1 : m.at 1 = some B) (b2 : B.cells = flatT ts) (a3 : A.obj = Ob.plain) (b3 : B.obj = Ob.plain) (a4 : A.esz = 0) (b4 : B.esz = 0) => rSides_q l ts hR c c2 (by decide) a1 a2 b1 b2 a3 b3 a4 b4
 have hps : ∀ k, k < (edL ts).length → (flatP (sdL ts))[k * 2]? = some (.int .i64 (pt (sdL ts) k).x) ∧ (flatP (sdL ts))[k * 2 + 1]? = some (.int .i64 (pt (sdL ts) k).y) := fun k hk => flatP_get (sdL ts) k (by rw [sdL_len]; exact hk)
 have hg := fun (k : Nat) (hk : k < (edL ts).length) => flatN_get xs k (by omega)
 have hle := edL_le ts
 have h80 := hR.le
 have hbd := fun k (hk : k ≤ (edL ts).length) => arK_bd (ts := ts) (i := (i : Int)) hx k (by omega)
 have hxb := fun k (hk : k < (edL ts).length) => hx k (by omega)
 have h0 : arK ts xs i 0 = 0 := rfl
 have s1 : ∀ k, (pt (sdL ts) k).x = (i : Int) → (pt (sdL ts) k).y = (i : Int) → arK ts xs i (k + 1) = arK ts xs i k + nt xs k - nt xs k := fun k h1 h2 => by
  show _ + _ - _ = _
  rw [if_pos h1, if_pos h2]
 have s2 : ∀ k, (pt (sdL ts) k).x = (i : Int) → ¬ (pt (sdL ts) k).y = (i : Int) → arK ts xs i (k + 1) = arK ts xs i k + nt xs k := fun k h1 h2 => by
  show _ + _ - _ = _
  rw [if_pos h1, if_neg h2, Int.sub_zero]
 have s3 : ∀ k, ¬ (pt (sdL ts) k).x = (i : Int) → (pt (sdL ts) k).y = (i : Int) → arK ts xs i (k + 1) = arK ts xs i k - nt xs k := fun k h1 h2 => by
  show _ + _ - _ = _
  rw [if_neg h1, if_pos h2, Int.add_zero]
 have s4 : ∀ k, ¬ (pt (sdL ts) k).x = (i : Int) → ¬ (pt (sdL ts) k).y = (i : Int) → arK ts xs i (k + 1) = arK ts xs i k := fun k h1 h2 => by
  show _ + _ - _ = _
  rw [if_neg h1, if_neg h2, Int.add_zero, Int.sub_zero]
 rw [hxl]
 generalize arK ts xs i = AK at *
 refine PCalls.en 42 Tryz.func70 rfl (ro3p _ _ _ rfl rfl rfl) rfl (fun E => ?_)
 repeat' (first | with_reducible (first | refine Then.n ?_ | refine Then.x ?_ | refine InB.n ?_ | refine InB.hit ?_) | ((with_reducible refine AL.on ?_); first | ((first | refine AL.mv ?_ | refine AL.as ?_ | ((with_reducible refine AL.k_binOp ?_); first | refine AL.g (OQ.lss rfl rfl) ?_ | refine AL.g (OQ.eql rfl rfl) ?_ | refine AL.g (OQ.addi rfl rfl (by omega)) ?_ | refine AL.g (OQ.subi rfl rfl (by omega)) ?_) | ((with_reducible refine AL.k_load ?_); first | refine AL.g (OQ.loadN (ty := 25) (n := 2) rfl kr kr (by rfl)) ?_ | (refine AL.g (OQ.load1 (ty := 3) rfl kr (by (first | exact (hps k (by omega)).1 | exact (hps k (by omega)).2 | exact hg k (by omega)))) ?_)) | ((with_reducible refine AL.k_call ?_); refine AL.g (OQ.lenS (xt := 45) (r := (none, 2, true)) rfl kr) ?_)); refine AL.nm ?_) | ((first | refine AL.g (OQ.idxAddr (ty := 45) (z := 2) (g := true) rfl rfl kr (by omega) (by omega)) ?_ | refine AL.g (OQ.idxPtr (ty := 52) (n := 1) (l := 2) (g := false) rfl rfl kr (by omega) (by omega)) ?_ | refine AL.g (OQ.idxAddr (ty := 26) (z := 1) (g := false) rfl rfl kr (by omega) (by omega)) ?_); refine AL.nm ?_) | ((first | ((with_reducible refine AL.k_call ?_); refine AL.acall (g := 32) rfl kr rfl ((by exact hrS _ _ _ rfl rfl rfl rfl rfl rfl rfl rfl)) ?_) | refine AL.bx ?_); refine AL.nm ?_; refine AL.nM ?_) | refine AL.nil ?_) | ((with_reducible refine AW.on ?_); first | refine AW.seq ?_ | refine AW.skip ?_ | refine AW.exit ?_ | refine AW.ret ?_ | ((refine AW.block (id := 0) ?_); (refine AW.fk [1, 2, 7, 8, 9] ?_); (refine AW.loop (fun n' t' m => ∃ k : Nat, n' = (edL ts).length - k ∧ k ≤ (edL ts).length ∧ t' = (mtz 45 0 [(1, .int .i64 (i)), (2, .slice (some ⟨2, 0, none⟩) (edL ts).length c3), (7, .int .i64 (AK k)), (8, .slice (some ⟨4, 0, none⟩) ((edL ts).length) INF), (9, .int .i64 (k))]) ∧ m = [some ⟨flatP l, false, 0⟩, some ⟨flatT ts, false, 0⟩, some ⟨flatN xs, false, z⟩, some ⟨[.slice (some ⟨0, 0, none⟩) l.length c, .slice (some ⟨1, 0, none⟩) ts.length c2], true, 0⟩, some ⟨flatP (sdL ts), true, 2⟩]) ((edL ts).length) (by exact ⟨0, rfl, Nat.zero_le _, by rw [h0]; rfl, rfl⟩) ?_); (rintro n' t' m ⟨k, rfl, hk, rfl, rfl⟩); (refine AW.nT ?_)) | refine AW.block ?_ | (refine AW.region (id := 6) ?_; ((have q1 := hbd k (by omega); have q2 := hxb k (by omega)))) | refine AW.region ?_ | (refine AW.conds rfl (fun hc => ?_) (fun hc => ?_) <;> (try replace hc := nc hc) <;> skip)) | ((with_reducible refine ex_on ?_); ((first | rw [← s1 k ‹_› ‹_›] | rw [← s2 k ‹_› ‹_›] | rw [← s3 k ‹_› ‹_›] | rw [← s4 k ‹_› ‹_›]); refine ⟨(edL ts).length - (k + 1), (mtz 45 0 [(1, .int .i64 (i)), (2, .slice (some ⟨2, 0, none⟩) (edL ts).length c3), (7, .int .i64 (AK (k + 1))), (8, .slice (some ⟨4, 0, none⟩) ((edL ts).length) INF), (9, .int .i64 (k + 1))]), _, by omega, ?_, k + 1, rfl, by omega, rfl, rfl⟩; exact Wk.fk [1, 2, 7, 8, 9] rfl)) | ((with_reducible refine FinP.on ?_); (refine FinP.ret (.tmp wl .nil) ?_ rfl); (try simp only [pack, List.drop, List.take]); all_goals ((obtain rfl : k = (edL ts).length := (by omega); rfl))))
theorem raround_q {m : Mem} {bP bT bX n : Nat} {A B X : Blk} (l : List Pn) (ts : List T3) (hR : NetR l ts) (xs : List Int) (hxl : xs.length = (edL ts).length) (hx : ∀ k, k < xs.length → -1000000000 ≤ nt xs k ∧ nt xs k ≤ 1000000000) (i : Nat) (c c2 c3 : Nat) (a1 : m.at bP = some A) (a2 : A.cells = flatP l) (b1 : m.at bT = some B) (b2 : B.cells = flatT ts) (x1 : m.at bX = some X) (x2 : X.cells = flatN xs) (hn : xs.length = n) (a3 : A.obj = Ob.plain) (b3 : B.obj = Ob.plain) (x3 : X.obj = Ob.plain) (a4 : A.esz = 0) (b4 : B.esz = 0) :
  PCalls Tryz.prog 70 [.agg #[.slice (some ⟨bP, 0, none⟩) l.length c, .slice (some ⟨bT, 0, none⟩) ts.length c2], .int .i64 i, .slice (some ⟨bX, 0, none⟩) n c3] m (.int .i64 (arK ts xs i (edL ts).length)) := by
 subst hn
 exact PCalls.viaS [bP, bT, bX] (raround_0 l ts hR xs hxl hx i c c2 c3 X.esz) (ro3p _ _ _ rfl rfl rfl) ⟨bS a1 a3 a2 (flatP_scal _) a4, bS b1 b3 b2 (flatT_scal _) b4, bS x1 x3 x2 (flatN_scal _), trivial⟩ rfl rfl rfl rfl
theorem rDifferences_0 (l : List Pn) (ts : List T3) (hR : NetR l ts) (ph : List Int) (hph : phE l ph = 0) (c c2 c3 z : Nat) :
  ACalls Tryz.prog 25 [.agg #[.slice (some ⟨0, 0, none⟩) l.length c, .slice (some ⟨1, 0, none⟩) ts.length c2], .slice (some ⟨2, 0, none⟩) ph.length c3] [some ⟨flatP l, false, 0⟩, some ⟨flatT ts, false, 0⟩, some ⟨flatN ph, false, z⟩] (.slice (some ⟨3, 0, none⟩) (edL ts).length INF) [some ⟨flatP l, false, 0⟩, some ⟨flatT ts, false, 0⟩, some ⟨flatN ph, false, z⟩, some ⟨flatN (dfL ts ph), true, 1⟩] := by
 obtain ⟨hpl, hpb⟩ := phE_0 hph
 have hrE := fun (m : Mem) (A B : Blk) (a1 : m.at 0 = some A) (a2 : A.cells = flatP l) (b1 : m.at 1 = some B) (b2 : B.cells = flatT ts) (a3 : A.obj = Ob.plain) (b3 : B.obj = Ob.plain) (a4 : A.esz = 0) (b4 : B.esz = 0) => rEdges_q l ts hR c c2 (by decide) a1 a2 b1 b2 a3 b3 a4 b4
 have hps : ∀ k, k < (edL ts).length → (flatP (edL ts))[k * 2]? = some (.int .i64 (pt (edL ts) k).x) ∧ (flatP (edL ts))[k * 2 + 1]? = some (.int .i64 (pt (edL ts) k).y) := fun k hk => flatP_get (edL ts) k hk
 have hr := fun (k : Nat) (hk : k < (edL ts).length) => edL_at hR.ok k hk
 have hg := fun (k : Nat) (hk : k < ph.length) => flatN_get ph k hk
 have hpos := edL_pos hR
 have hle := edL_le ts
 have h80 := hR.le
 have hnt := fun (k : Nat) (hk : k < (edL ts).length) => dfL_nt (ph := ph) hk
 have hft := fun (k : Nat) (hk : k < (edL ts).length) => flatN_take (xs := dfL ts ph) (k := k) (by rw [dfL_len]; exact hk)
 have hfl : ∀ k, k ≤ (edL ts).length → (flatN ((dfL ts ph).take k)).length = k * 1 := fun k hk => by rw [flatN_len, List.length_take, dfL_len, Nat.min_eq_left hk, Nat.mul_one]
 have htl : (dfL ts ph).take (edL ts).length = dfL ts ph := by rw [← dfL_len ts ph, List.take_length]
 have hwr := fun (n : Int) (m : Mem) => Wrap_q n m
 refine ACalls.en 36 Tryz.func25 rfl rfl (fun E hE => ?_)
 repeat' (first | with_reducible (first | refine Then.n ?_ | refine Then.x ?_ | refine InB.n ?_ | refine InB.hit ?_) | ((with_reducible refine AL.on ?_); first | ((first | refine AL.mv ?_ | refine AL.as ?_ | ((with_reducible refine AL.k_load ?_); refine AL.g (OQ.loadN (ty := 25) (n := 2) rfl kr kr (by rfl)) ?_) | ((with_reducible refine AL.k_call ?_); refine AL.g (OQ.lenS (xt := 45) (r := (none, 2, true)) rfl kr) ?_) | ((with_reducible refine AL.k_binOp ?_); first | refine AL.g (OQ.lss rfl rfl) ?_ | refine AL.g (OQ.addi rfl rfl (by omega)) ?_)); refine AL.nm ?_) | ((first | ((with_reducible refine AL.k_call ?_); first | refine AL.acall (g := 31) rfl kr rfl ((by exact hrE _ _ _ rfl rfl rfl rfl rfl rfl rfl rfl)) ?_ | refine AL.w rfl (by first | exact OW.appendNil (e := 3) (z := 1) (zs := [.int .i64 0]) (by' := 8) rfl rfl kr kr kr rfl kr (by decide) rfl (by decide) (by decide) | exact OW.appendL (e := 3) (z := 1) (zs := [.int .i64 0]) (by' := 8) rfl rfl kr kr kr rfl kr (by decide) rfl rfl rfl (by decide) (by exact hfl k (by omega)) rfl rfl (by omega) (by omega)) ?_) | refine AL.bx ?_); refine AL.nm ?_; refine AL.nM ?_) | refine AL.nil ?_) | ((with_reducible refine AW.on ?_); first | refine AW.seq ?_ | refine AW.skip ?_ | refine AW.exit ?_ | refine AW.ret ?_ | ((refine AW.block (id := 0) ?_); (refine AW.fk [1, 5, 6, 7] ?_); (refine AW.loop (fun n' t' m => ∃ k : Nat, n' = (edL ts).length - k ∧ k ≤ (edL ts).length ∧ ((k = 0 ∧ t' = [jk, .slice (some ⟨2, 0, none⟩) ph.length c3, jk, jk, jk, .slice (some ⟨4, 0, none⟩) ((edL ts).length) INF, .slice none 0 0, .int .i64 (k), jk, jk, jk, jk, jk, jk, jk, jk, jk, jk, jk, jk, jk, jk, jk, jk, jk, jk, jk, jk, jk, jk, jk, jk, jk, jk, jk, jk, jk, jk] ∧ m = [some ⟨flatP l, false, 0⟩, some ⟨flatT ts, false, 0⟩, some ⟨flatN ph, false, z⟩, some ⟨[.slice (some ⟨0, 0, none⟩) l.length c, .slice (some ⟨1, 0, none⟩) ts.length c2], true, 0⟩, some ⟨flatP (edL ts), true, 2⟩]) ∨ (0 < k ∧ t' = [jk, .slice (some ⟨2, 0, none⟩) ph.length c3, jk, jk, jk, .slice (some ⟨4, 0, none⟩) ((edL ts).length) INF, .slice (some ⟨5, 0, none⟩) (k) INF, .int .i64 (k), jk, jk, jk, jk, jk, jk, jk, jk, jk, jk, jk, jk, jk, jk, jk, jk, jk, jk, jk, jk, jk, jk, jk, jk, jk, jk, jk, jk, jk, jk] ∧ m = [some ⟨flatP l, false, 0⟩, some ⟨flatT ts, false, 0⟩, some ⟨flatN ph, false, z⟩, some ⟨[.slice (some ⟨0, 0, none⟩) l.length c, .slice (some ⟨1, 0, none⟩) ts.length c2], true, 0⟩, some ⟨flatP (edL ts), true, 2⟩, some ⟨flatN ((dfL ts ph).take k), true, 1⟩]))) ((edL ts).length) (by exact ⟨0, rfl, Nat.zero_le _, .inl ⟨rfl, rfl, rfl⟩⟩) ?_); (rintro n' t' m ⟨k, rfl, hk, (⟨hk0, rfl, rfl⟩ | ⟨hk1, rfl, rfl⟩)⟩)) | refine AW.block ?_ | (refine AW.drawF (id := 6) 20 #[0, 0, 0, 0, 12, 28, 60, 126, 254, 0, 0, 0, 3072, 7168, 15360, 32256, 65024, 131070, 262142, 524286, 1048575, 2097151] kr kr ?_; (conv => (arg 8; simp only [List.take_succ_cons, List.take_zero])); ((have hq := hr k (by omega); have hq1 := hpb (pt (edL ts) k).x.toNat (by omega); have hq2 := hpb (pt (edL ts) k).y.toNat (by omega)))) | refine AW.region ?_ | (refine AW.conds rfl (fun hc => ?_) (fun hc => ?_) <;> (try replace hc := nc hc) <;> first | (exfalso; ((omega); done)) | skip)) | ((with_reducible refine AF.on ?_); first | ((first | ((with_reducible refine AF.k_move ?_); (refine AF.q 0 (SW.q (OQ.move wl) rfl) ?_)) | ((with_reducible refine AF.k_indexAddr ?_); first | refine AF.q 0 (SW.q (OQ.idxAddr (ty := 45) (z := 2) (g := true) rfl rfl kr (by omega) (by omega)) rfl) ?_ | refine AF.q 0 (SW.q (OQ.idxPtr (ty := 52) (n := 1) (l := 2) (g := false) rfl rfl kr (by omega) (by omega)) rfl) ?_ | refine AF.q 0 (SW.q (OQ.idxAddr (ty := 26) (z := 1) (g := false) rfl rfl kr (by omega) (by omega)) rfl) ?_) | ((with_reducible refine AF.k_load ?_); (refine AF.ql rfl (SW.q (OQ.load1 (ty := 3) rfl kr (by (first | exact (hps k (by omega)).1 | exact (hps k (by omega)).2 | exact hg _ (by omega)))) rfl) ?_)) | ((with_reducible refine AF.k_call ?_); refine AF.q 2 (SW.pcall (g := 23) rfl kr rfl (hwr _ _) rfl) ?_) | ((with_reducible refine AF.k_binOp ?_); refine AF.q 0 (SW.q (OQ.subi rfl rfl (by omega)) rfl) ?_)); refine AF.nm ?_) | ((refine AF.n1 0 (SW.w (OW.buildSl (ty := 26) (zs := [.int .i64 0]) (n := 1) (g := false) kr kr rfl rfl rfl (by decide) (by decide) rfl rfl) rfl) rfl ?_); refine AF.nm ?_; (conv => (arg 10; try tactic => exact nrmF))) | refine AF.nl ?_) | ((with_reducible refine ex_on ?_); first | (obtain rfl := hk0; have hf0 := hft 0 (by omega); rw [hnt 0 (by omega)] at hf0; refine ⟨(edL ts).length - 1, [jk, .slice (some ⟨2, 0, none⟩) ph.length c3, jk, jk, jk, .slice (some ⟨4, 0, none⟩) ((edL ts).length) INF, .slice (some ⟨5, 0, none⟩) (1) INF, .int .i64 (((0 + 1 : Nat) : Int)), jk, jk, jk, jk, jk, jk, jk, jk, jk, jk, jk, jk, jk, jk, jk, jk, jk, jk, jk, jk, jk, jk, jk, jk, jk, jk, jk, jk, jk, jk], [some ⟨flatP l, false, 0⟩, some ⟨flatT ts, false, 0⟩, some ⟨flatN ph, false, z⟩, some ⟨[.slice (some ⟨0, 0, none⟩) l.length c, .slice (some ⟨1, 0, none⟩) ts.length c2], true, 0⟩, some ⟨flatP (edL ts), true, 2⟩, some ⟨[.int .i64 (dfP ph (pt (edL ts) 0))], true, 1⟩], by omega, ?_, 0 + 1, rfl, by omega, .inr ⟨by omega, rfl, by rw [← hf0]; rfl⟩⟩; exact Wk.keep 5 [6] (by rw [hE]; exact Nat.le_of_ble_eq_true rfl) rfl rfl (by repeat (first | exact RenT.nil | refine RenT.jk ?_ | refine RenT.val (by rfl) (by rfl) ?_)) ⟨kl rfl (flatP_scal l), kl rfl (flatT_scal ts), kl rfl (flatN_scal ph), ki rfl, kl rfl (flatP_scal _), kl rfl rfl, trivial⟩) | (have hf0 := hft k (by omega); rw [hnt k (by omega)] at hf0; refine ⟨(edL ts).length - (k + 1), [jk, .slice (some ⟨2, 0, none⟩) ph.length c3, jk, jk, jk, .slice (some ⟨4, 0, none⟩) ((edL ts).length) INF, .slice (some ⟨5, 0, none⟩) (k + 1) INF, .int .i64 (((k + 1 : Nat) : Int)), jk, jk, jk, jk, jk, jk, jk, jk, jk, jk, jk, jk, jk, jk, jk, jk, jk, jk, jk, jk, jk, jk, jk, jk, jk, jk, jk, jk, jk, jk], [some ⟨flatP l, false, 0⟩, some ⟨flatT ts, false, 0⟩, some ⟨flatN ph, false, z⟩, some ⟨[.slice (some ⟨0, 0, none⟩) l.length c, .slice (some ⟨1, 0, none⟩) ts.length c2], true, 0⟩, some ⟨flatP (edL ts), true, 2⟩, some ⟨flatN ((dfL ts ph).take k) ++ [.int .i64 (dfP ph (pt (edL ts) k))], true, 1⟩], by omega, ?_, k + 1, rfl, by omega, .inr ⟨by omega, rfl, by rw [← hf0]⟩⟩; exact Wk.keep 5 [7] (by rw [hE]; exact Nat.le_of_ble_eq_true rfl) rfl rfl (by repeat (first | exact RenT.nil | refine RenT.jk ?_ | refine RenT.val (by rfl) (by rfl) ?_)) ⟨kl rfl (flatP_scal l), kl rfl (flatT_scal ts), kl rfl (flatN_scal ph), ki rfl, kl rfl (flatP_scal _), ⟨_, rfl, rfl, rfl, .inl ⟨rfl, by rw [List.all_append, flatN_scal]; rfl⟩⟩, trivial⟩)) | ((with_reducible refine FinA.on ?_); (obtain rfl : k = (edL ts).length := (by omega); rw [htl]; refine FinA.keep 3 [5] (.inl rfl) (.tmp wl .nil) ?_ rfl (Nat.le_of_eq hE) rfl rfl ⟨kl rfl (flatP_scal l), kl rfl (flatT_scal ts), kl rfl (flatN_scal ph), kl rfl (flatN_scal _), trivial⟩; rfl)))
theorem rDifferences_q {m : Mem} {bP bT bX n : Nat} {A B X : Blk} (l : List Pn) (ts : List T3) (hR : NetR l ts) (ph : List Int) (hph : phE l ph = 0) (c c2 c3 : Nat) (hd : [bP, bT, bX].Nodup) (a1 : m.at bP = some A) (a2 : A.cells = flatP l) (b1 : m.at bT = some B) (b2 : B.cells = flatT ts) (x1 : m.at bX = some X) (x2 : X.cells = flatN ph) (hn : ph.length = n) (a3 : A.obj = Ob.plain) (b3 : B.obj = Ob.plain) (x3 : X.obj = Ob.plain) (a4 : A.esz = 0) (b4 : B.esz = 0) :
  ACalls Tryz.prog 25 [.agg #[.slice (some ⟨bP, 0, none⟩) l.length c, .slice (some ⟨bT, 0, none⟩) ts.length c2], .slice (some ⟨bX, 0, none⟩) n c3] m (.slice (some ⟨m.length, 0, none⟩) (edL ts).length INF) (m ++ [some ⟨flatN (dfL ts ph), true, 1⟩]) := by
 subst hn
 have h := ACalls.viaS (m := m) (args := [.agg #[.slice (some ⟨bP, 0, none⟩) l.length c, .slice (some ⟨bT, 0, none⟩) ts.length c2], .slice (some ⟨bX, 0, none⟩) ph.length c3]) (v := .slice (some ⟨m.length, 0, none⟩) (edL ts).length INF) [bP, bT, bX] [] [some ⟨flatN (dfL ts ph), true, 1⟩] (rDifferences_0 l ts hR ph hph c c2 c3 X.esz) ⟨bS a1 a3 a2 (flatP_scal _) a4, bS b1 b3 b2 (flatT_scal _) b4, bS x1 x3 x2 (flatN_scal _), trivial⟩ hd ⟨⟨_, rfl, rfl⟩, ⟨_, rfl, rfl⟩, ⟨_, rfl, rfl⟩, ⟨rfl, rfl, rfl, .inl ⟨rfl, flatN_scal _⟩⟩, trivial⟩ rfl rfl rfl rfl
 exact h
end Go.Proofs.YtmohcmghbfhdlaaGreat
end
end
/- Chapter 6: the reference's closures; the error of a net and phases of any form. -/
section
set_option linter.unusedSimpArgs false
set_option linter.unusedVariables false
section
namespace Go.Me
open Go.Ab Go.Ls Go.Proofs.YtmohcmghbfhdlaaGreat
theorem arK_cl {ts : List T3} {ph : List Int} {i : Nat} (hi : i < ts.length) : (arK ts (dfL ts ph) i (edL ts).length).tdiv 4096 = nt (clL ts ph) i := by
 rw [arK_smL hi _ (Nat.le_refl _), clL_nt _ _ _ hi]
 rfl
theorem blX_bl {cs : List Value} {b : Blk} (h : blX cs = some b) : b = ⟨cs, false, 0⟩ := by
 unfold blX at h
 split at h
 ·cases h
 ·cases h; rfl
theorem PCalls.tri {P : Program} {f : FuncId} {args : List Value} {m : Mem} {cs ds es : List Value} {v : Value} (h : PCalls P f args [blX cs, blX ds, blX es] v) (hs : cs.all scal = true) (ht : ds.all scal = true) (hu : es.all scal = true) (e0 : m.at 0 = blX cs) (e1 : m.at 1 = blX ds) (e2 : m.at 2 = blX es)
  (ha : args.map (rn3 fun b => b) = args) (hk : args.all (ok3 3) = true) (hv : rn3 (fun b => b) v = v) (hkv : ok3 3 v = true) : PCalls P f args m v := by
 have key : ∀ (cs : List Value) (blk : Blk), cs.all scal = true → blX cs = some blk → blk.cells.all (ok1 3) = true ∧ blk.shp = blk.shpR (fun b => b) 3 := fun cs blk h1 h2 => by
  rw [blX_bl h2]
  exact ⟨ok1_all h1, rfl⟩
 refine PCalls.wide h (fun b blk hb => ?_) ha hk hv hkv
 match b, hb with
 | 0, hb => exact ⟨blX_ro cs _ hb, (key _ _ hs hb).1, blk, e0.trans hb, (key _ _ hs hb).2, rfl⟩
 | 1, hb => exact ⟨blX_ro ds _ hb, (key _ _ ht hb).1, blk, e1.trans hb, (key _ _ ht hb).2, rfl⟩
 | 2, hb => exact ⟨blX_ro es _ hb, (key _ _ hu hb).1, blk, e2.trans hb, (key _ _ hu hb).2, rfl⟩
theorem ro_bl3 (a b c : List Value) : Mem.ro [blX a, blX b, blX c] := fun k blk hk => by
 match k, hk with
 | 0, hk => exact blX_ro a _ hk
 | 1, hk => exact blX_ro b _ hk
 | 2, hk => exact blX_ro c _ hk
theorem flatN_nil (xs : List Int) : flatN xs = [] ↔ xs.length = 0 := by
 rw [← List.length_eq_zero_iff, flatN_len]
end Go.Me
namespace Go.Proofs.YtmohcmghbfhdlaaGreat
open Go Go.RowKit Go.Ab Go.Me
set_option maxRecDepth 100000
set_option maxHeartbeats 4000000
attribute [local irreducible] OQ OW AL AW AF SW
theorem rClosures_0 (l : List Pn) (ts : List T3) (hR : NetR l ts) (ph : List Int) (hph : phE l ph = 0) (c c2 c3 z : Nat) :
  ACalls Tryz.prog 34 [.agg #[.slice (some ⟨0, 0, none⟩) l.length c, .slice (some ⟨1, 0, none⟩) ts.length c2], .slice (some ⟨2, 0, none⟩) ph.length c3] [some ⟨flatP l, false, 0⟩, some ⟨flatT ts, false, 0⟩, some ⟨flatN ph, false, z⟩] (.slice (some ⟨3, 0, none⟩) ts.length INF) [some ⟨flatP l, false, 0⟩, some ⟨flatT ts, false, 0⟩, some ⟨flatN ph, false, z⟩, some ⟨flatN (clL ts ph), true, 1⟩] := by
 have hrD := fun (m : Mem) (A B X : Blk) (a1 : m.at 0 = some A) (a2 : A.cells = flatP l) (b1 : m.at 1 = some B) (b2 : B.cells = flatT ts) (x1 : m.at 2 = some X) (x2 : X.cells = flatN ph) (a3 : A.obj = Ob.plain) (b3 : B.obj = Ob.plain) (x3 : X.obj = Ob.plain) (a4 : A.esz = 0) (b4 : B.esz = 0) => rDifferences_q l ts hR ph hph c c2 c3 (by decide) a1 a2 b1 b2 x1 x2 rfl a3 b3 x3 a4 b4
 have hdl := dfL_len ts ph
 have hdb := dfL_bd ts ph
 have har := fun (i : Nat) (m : Mem) (A B X : Blk) (a1 : m.at 0 = some A) (a2 : A.cells = flatP l) (b1 : m.at 1 = some B) (b2 : B.cells = flatT ts) (x1 : m.at 4 = some X) (x2 : X.cells = flatN (dfL ts ph)) (a3 : A.obj = Ob.plain) (b3 : B.obj = Ob.plain) (x3 : X.obj = Ob.plain) (a4 : A.esz = 0) (b4 : B.esz = 0) => raround_q (n := (edL ts).length) l ts hR (dfL ts ph) hdl (fun k hk => by have := hdb k hk; omega) i c c2 INF a1 a2 b1 b2 x1 x2 hdl a3 b3 x3 a4 b4
 have hle := edL_le ts
 have h80 := hR.le
 have hpos := hR.g.1
 have hSb : ∀ k, k < ts.length → -600000000000 ≤ arK ts (dfL ts ph) k (edL ts).length ∧ arK ts (dfL ts ph) k (edL ts).length ≤ 600000000000 := fun k hk => by
  have := arK_bd (ts := ts) (xs := dfL ts ph) (i := (k : Int)) (fun k hk => by have := hdb k hk; omega) (edL ts).length (by omega)
  omega
 have htd : ∀ k, k < ts.length → -9223372036854775808 ≤ (arK ts (dfL ts ph) k (edL ts).length).tdiv 4096 ∧ (arK ts (dfL ts ph) k (edL ts).length).tdiv 4096 ≤ 9223372036854775807 := fun k hk => by
  have := hSb k hk
  have h1 := Int.tdiv_le_tdiv (c := 4096) (by decide) this.1
  have h2 := Int.tdiv_le_tdiv (c := 4096) (by decide) this.2
  rw [show (-600000000000 : Int).tdiv 4096 = -146484375 by decide] at h1
  rw [show (600000000000 : Int).tdiv 4096 = 146484375 by decide] at h2
  omega
 have hcl : ∀ k, k < ts.length → (arK ts (dfL ts ph) k (edL ts).length).tdiv 4096 = nt (clL ts ph) k := fun k hk => arK_cl hk
 have hft := fun (k : Nat) (hk : k < ts.length) => flatN_take (xs := clL ts ph) (k := k) (by rw [clL_len]; exact hk)
 have hfl : ∀ k, k ≤ ts.length → (flatN ((clL ts ph).take k)).length = k * 1 := fun k hk => by rw [flatN_len, List.length_take, clL_len, Nat.min_eq_left hk, Nat.mul_one]
 have htl : (clL ts ph).take ts.length = clL ts ph := by rw [← clL_len ts ph, List.take_length]
 generalize clL ts ph = CL at *
 refine ACalls.en 25 Tryz.func34 rfl rfl (fun E hE => ?_)
 repeat' (first | with_reducible (first | refine Then.n ?_ | refine Then.x ?_ | refine InB.n ?_ | refine InB.hit ?_) | ((with_reducible refine AL.on ?_); first | ((first | refine AL.as ?_ | refine AL.mv ?_ | ((with_reducible refine AL.k_call ?_); refine AL.g (OQ.lenS (xt := 23) (r := (none, 3, true)) rfl kr) ?_) | ((with_reducible refine AL.k_load ?_); first | refine AL.g (OQ.loadN (ty := 25) (n := 2) rfl kr kr rfl) ?_ | (refine AL.g (OQ.load1 (ty := 23) rfl kr wl) ?_)) | ((with_reducible refine AL.k_binOp ?_); first | refine AL.g (OQ.lss rfl rfl) ?_ | refine AL.g (OQ.quoi rfl rfl (by omega) (by exact htd k (by omega))) ?_ | refine AL.g (OQ.addi rfl rfl (by omega)) ?_) | ((with_reducible refine AL.k_fieldAddr ?_); refine AL.g (OQ.fieldA (ty := 25) (i := 1) (n := 1) (off := 1) (g := false) rfl kr (by decide)) ?_)); refine AL.nm ?_) | ((refine AL.pcall (g := 70) rfl kr rfl ((by exact har k _ _ _ _ rfl rfl rfl rfl rfl rfl rfl rfl rfl rfl rfl)) ?_); refine AL.nm ?_) | ((first | ((with_reducible refine AL.k_call ?_); first | refine AL.acall (g := 25) rfl kr rfl ((by exact hrD _ _ _ _ rfl rfl rfl rfl rfl rfl rfl rfl rfl rfl rfl)) ?_ | refine AL.w rfl (by first | exact OW.appendNil (e := 3) (z := 1) (zs := [.int .i64 0]) (by' := 8) rfl rfl kr kr kr rfl kr (by decide) rfl (by decide) (by decide) | exact OW.appendL (e := 3) (z := 1) (zs := [.int .i64 0]) (by' := 8) rfl rfl kr kr kr rfl kr (by decide) rfl rfl rfl (by decide) (by exact hfl k (by omega)) rfl rfl (by omega) (by omega)) ?_) | refine AL.bx ?_ | ((with_reducible refine AL.k_buildSlice ?_); refine AL.w rfl (OW.buildSl (ty := 26) (zs := [.int .i64 0]) (n := 1) (g := false) kr kr rfl rfl rfl (by decide) (by decide) rfl rfl) ?_)); refine AL.nm ?_; refine AL.nM ?_) | refine AL.nil ?_) | ((with_reducible refine AW.on ?_); first | refine AW.seq ?_ | refine AW.skip ?_ | refine AW.exit ?_ | refine AW.ret ?_ | ((refine AW.block (id := 0) ?_); (refine AW.fk [2, 5, 6, 7] ?_); (refine AW.loop (fun n' t' m => ∃ k : Nat, n' = ts.length - k ∧ k ≤ ts.length ∧ ((k = 0 ∧ t' = [jk, jk, .pointer (some ⟨3, 0, none⟩), jk, jk, .slice (some ⟨4, 0, none⟩) ((edL ts).length) INF, .slice none 0 0, .int .i64 (k), jk, jk, jk, jk, jk, jk, jk, jk, jk, jk, jk, jk, jk, jk, jk, jk, jk, jk, jk] ∧ m = [some ⟨flatP l, false, 0⟩, some ⟨flatT ts, false, 0⟩, some ⟨flatN ph, false, z⟩, some ⟨[.slice (some ⟨0, 0, none⟩) l.length c, .slice (some ⟨1, 0, none⟩) ts.length c2], true, 0⟩, some ⟨flatN (dfL ts ph), true, 1⟩]) ∨ (0 < k ∧ t' = [jk, jk, .pointer (some ⟨3, 0, none⟩), jk, jk, .slice (some ⟨4, 0, none⟩) ((edL ts).length) INF, .slice (some ⟨5, 0, none⟩) (k) INF, .int .i64 (k), jk, jk, jk, jk, jk, jk, jk, jk, jk, jk, jk, jk, jk, jk, jk, jk, jk, jk, jk] ∧ m = [some ⟨flatP l, false, 0⟩, some ⟨flatT ts, false, 0⟩, some ⟨flatN ph, false, z⟩, some ⟨[.slice (some ⟨0, 0, none⟩) l.length c, .slice (some ⟨1, 0, none⟩) ts.length c2], true, 0⟩, some ⟨flatN (dfL ts ph), true, 1⟩, some ⟨flatN (CL.take k), true, 1⟩]))) (ts.length) (by exact ⟨0, rfl, Nat.zero_le _, .inl ⟨rfl, rfl, rfl⟩⟩) ?_); (rintro n' t' m ⟨k, rfl, hk, (⟨hk0, rfl, rfl⟩ | ⟨hk1, rfl, rfl⟩)⟩)) | refine AW.block ?_ | refine AW.region ?_ | (refine AW.conds rfl (fun hc => ?_) (fun hc => ?_) <;> (try replace hc := nc hc) <;> first | (exfalso; ((omega); done)) | skip)) | ((with_reducible refine ex_on ?_); first | (obtain rfl := hk0; have hf0 := hft 0 (by omega); have hv := hcl 0 (by omega); rw [hv]; refine ⟨ts.length - 1, [jk, jk, .pointer (some ⟨3, 0, none⟩), jk, jk, .slice (some ⟨4, 0, none⟩) ((edL ts).length) INF, .slice (some ⟨5, 0, none⟩) (1) INF, .int .i64 (((0 + 1 : Nat) : Int)), jk, jk, jk, jk, jk, jk, jk, jk, jk, jk, jk, jk, jk, jk, jk, jk, jk, jk, jk], [some ⟨flatP l, false, 0⟩, some ⟨flatT ts, false, 0⟩, some ⟨flatN ph, false, z⟩, some ⟨[.slice (some ⟨0, 0, none⟩) l.length c, .slice (some ⟨1, 0, none⟩) ts.length c2], true, 0⟩, some ⟨flatN (dfL ts ph), true, 1⟩, some ⟨[.int .i64 (nt CL 0)], true, 1⟩], by omega, ?_, 0 + 1, rfl, by omega, .inr ⟨by omega, rfl, by rw [← hf0]; rfl⟩⟩; exact Wk.keep 5 [6] (by rw [hE]; exact Nat.le_of_ble_eq_true rfl) rfl rfl (by repeat (first | exact RenT.nil | refine RenT.jk ?_ | refine RenT.val (by rfl) (by rfl) ?_)) ⟨kl rfl (flatP_scal l), kl rfl (flatT_scal ts), kl rfl (flatN_scal ph), ki rfl, kl rfl (flatN_scal _), kl rfl rfl, trivial⟩) | (have hf0 := hft k (by omega); have hv := hcl k (by omega); rw [hv]; refine ⟨ts.length - (k + 1), [jk, jk, .pointer (some ⟨3, 0, none⟩), jk, jk, .slice (some ⟨4, 0, none⟩) ((edL ts).length) INF, .slice (some ⟨5, 0, none⟩) (k + 1) INF, .int .i64 (((k + 1 : Nat) : Int)), jk, jk, jk, jk, jk, jk, jk, jk, jk, jk, jk, jk, jk, jk, jk, jk, jk, jk, jk], [some ⟨flatP l, false, 0⟩, some ⟨flatT ts, false, 0⟩, some ⟨flatN ph, false, z⟩, some ⟨[.slice (some ⟨0, 0, none⟩) l.length c, .slice (some ⟨1, 0, none⟩) ts.length c2], true, 0⟩, some ⟨flatN (dfL ts ph), true, 1⟩, some ⟨flatN (CL.take k) ++ [.int .i64 (nt CL k)], true, 1⟩], by omega, ?_, k + 1, rfl, by omega, .inr ⟨by omega, rfl, by rw [← hf0]⟩⟩; exact Wk.keep 5 [7] (by rw [hE]; exact Nat.le_of_ble_eq_true rfl) rfl rfl (by repeat (first | exact RenT.nil | refine RenT.jk ?_ | refine RenT.val (by rfl) (by rfl) ?_)) ⟨kl rfl (flatP_scal l), kl rfl (flatT_scal ts), kl rfl (flatN_scal ph), ki rfl, kl rfl (flatN_scal _), ⟨_, rfl, rfl, rfl, .inl ⟨rfl, by rw [List.all_append, flatN_scal]; rfl⟩⟩, trivial⟩)) | ((with_reducible refine FinA.on ?_); (obtain rfl : k = ts.length := (by omega); rw [htl]; refine FinA.keep 3 [5] (.inl rfl) (.tmp wl .nil) ?_ rfl (Nat.le_of_eq hE) rfl rfl ⟨kl rfl (flatP_scal l), kl rfl (flatT_scal ts), kl rfl (flatN_scal ph), kl rfl (flatN_scal _), trivial⟩; rfl)))
theorem rClosures_q {m : Mem} {bP bT bX n : Nat} {A B X : Blk} (l : List Pn) (ts : List T3) (hR : NetR l ts) (ph : List Int) (hph : phE l ph = 0) (c c2 c3 : Nat) (hd : [bP, bT, bX].Nodup) (a1 : m.at bP = some A) (a2 : A.cells = flatP l) (b1 : m.at bT = some B) (b2 : B.cells = flatT ts) (x1 : m.at bX = some X) (x2 : X.cells = flatN ph) (hn : ph.length = n) (a3 : A.obj = Ob.plain) (b3 : B.obj = Ob.plain) (x3 : X.obj = Ob.plain) (a4 : A.esz = 0) (b4 : B.esz = 0) :
  ACalls Tryz.prog 34 [.agg #[.slice (some ⟨bP, 0, none⟩) l.length c, .slice (some ⟨bT, 0, none⟩) ts.length c2], .slice (some ⟨bX, 0, none⟩) n c3] m (.slice (some ⟨m.length, 0, none⟩) ts.length INF) (m ++ [some ⟨flatN (clL ts ph), true, 1⟩]) := by
 subst hn
 have h := ACalls.viaS (m := m) (args := [.agg #[.slice (some ⟨bP, 0, none⟩) l.length c, .slice (some ⟨bT, 0, none⟩) ts.length c2], .slice (some ⟨bX, 0, none⟩) ph.length c3]) (v := .slice (some ⟨m.length, 0, none⟩) ts.length INF) [bP, bT, bX] [] [some ⟨flatN (clL ts ph), true, 1⟩] (rClosures_0 l ts hR ph hph c c2 c3 X.esz) ⟨bS a1 a3 a2 (flatP_scal _) a4, bS b1 b3 b2 (flatT_scal _) b4, bS x1 x3 x2 (flatN_scal _), trivial⟩ hd ⟨⟨_, rfl, rfl⟩, ⟨_, rfl, rfl⟩, ⟨_, rfl, rfl⟩, ⟨rfl, rfl, rfl, .inl ⟨rfl, flatN_scal _⟩⟩, trivial⟩ rfl rfl rfl rfl
 exact h
theorem NetErr_e (v w u : Value) (E0 I0 : Int) (o1 o2 o3 : Option Blk) (hr : Mem.ro [o1, o2, o3]) (hE0 : E0 ≠ 0) (hN : ∀ m : Mem, m.at 0 = Mem.at [o1, o2, o3] 0 → m.at 1 = Mem.at [o1, o2, o3] 1 → PCalls Tryz.prog 29 [.agg #[v, w]] m (.tuple #[.int .i64 I0, .int .i64 E0])) :
  PCalls Tryz.prog 17 [.agg #[v, w], u] [o1, o2, o3] (.int .i64 E0) := by
 refine PCalls.en 16 Tryz.func17 rfl (hr) rfl (fun E => ?_)
 repeat' (first | with_reducible (first | refine Then.n ?_ | refine Then.r ?_) | ((with_reducible refine AL.on ?_); first | ((first | refine AL.as ?_ | refine AL.mv ?_ | ((with_reducible refine AL.k_load ?_); refine AL.g (OQ.loadN (ty := 25) (n := 2) rfl kr kr rfl) ?_) | refine AL.et ?_ | ((with_reducible refine AL.k_binOp ?_); refine AL.g (OQ.neq rfl rfl) ?_)); refine AL.nm ?_) | ((refine AL.pcall (g := 29) rfl kr rfl ((by exact hN _ rfl rfl)) ?_); refine AL.nm ?_) | ((refine AL.bx ?_); refine AL.nm ?_; refine AL.nM ?_) | refine AL.nil ?_) | ((with_reducible refine AW.on ?_); first | refine AW.seq ?_ | refine AW.ret ?_ | refine AW.region ?_ | (refine AW.conds rfl (fun hc => ?_) (fun hc => ?_) <;> (try replace hc := nc hc) <;> first | (exfalso; contradiction) | skip)) | ((with_reducible refine FinP.on ?_); (refine FinP.ret (.tmp wl .nil) ?_ rfl); (try simp only [pack, List.drop, List.take]); all_goals (rfl)))
theorem NetErr_y (v w u : Value) (E0 I0 : Int) (o1 o2 o3 : Option Blk) (hr : Mem.ro [o1, o2, o3]) (hN : ∀ m : Mem, m.at 0 = Mem.at [o1, o2, o3] 0 → m.at 1 = Mem.at [o1, o2, o3] 1 → PCalls Tryz.prog 29 [.agg #[v, w]] m (.tuple #[.int .i64 I0, .int .i64 0])) (hP : ∀ m : Mem, m.at 0 = Mem.at [o1, o2, o3] 0 → m.at 1 = Mem.at [o1, o2, o3] 1 → m.at 2 = Mem.at [o1, o2, o3] 2 → PCalls Tryz.prog 68 [.agg #[v, w], u] m (.int .i64 E0)) :
  PCalls Tryz.prog 17 [.agg #[v, w], u] [o1, o2, o3] (.int .i64 E0) := by
 refine PCalls.en 16 Tryz.func17 rfl (hr) rfl (fun E => ?_)
 repeat' (first | with_reducible (refine Then.n ?_) | ((with_reducible refine AL.on ?_); first | ((first | refine AL.as ?_ | refine AL.mv ?_ | ((with_reducible refine AL.k_load ?_); refine AL.g (OQ.loadN (ty := 25) (n := 2) rfl kr kr rfl) ?_) | refine AL.et ?_ | ((with_reducible refine AL.k_binOp ?_); refine AL.g (OQ.neq rfl rfl) ?_)); refine AL.nm ?_) | ((first | refine AL.pcall (g := 29) rfl kr rfl ((by exact hN _ rfl rfl)) ?_ | refine AL.pcall (g := 68) rfl kr rfl ((by exact hP _ rfl rfl rfl)) ?_); refine AL.nm ?_) | ((refine AL.bx ?_); refine AL.nm ?_; refine AL.nM ?_) | refine AL.nil ?_) | ((with_reducible refine AW.on ?_); first | refine AW.seq ?_ | refine AW.skip ?_ | refine AW.ret ?_ | refine AW.region ?_ | (refine AW.conds rfl (fun hc => ?_) (fun hc => ?_) <;> (try replace hc := nc hc) <;> first | (exfalso; contradiction) | skip)) | ((with_reducible refine FinP.on ?_); (refine FinP.ret (.tmp wl .nil) ?_ rfl); (try simp only [pack, List.drop, List.take]); all_goals (rfl)))
theorem NetErr_g {m : Mem} {v w u : Value} {l : List Pn} {ts : List T3} {ph : List Int} (e0 : m.at 0 = Ls.blX (flatP l)) (e1 : m.at 1 = Ls.blX (flatT ts)) (e2 : m.at 2 = Ls.blX (flatN ph)) (hv : SlV [Ls.blX (flatP l), Ls.blX (flatT ts)] 0 v (flatP l) l.length) (hw : SlV [Ls.blX (flatP l), Ls.blX (flatT ts)] 1 w (flatT ts) ts.length) (hu : SlV [Ls.blX (flatP l), Ls.blX (flatT ts), Ls.blX (flatN ph)] 2 u (flatN ph) ph.length) (hl : l.length ≤ 1000000) (ht : (ts.length : Int) ≤ 9223372036854775807) (hp : ph.length ≤ 1000000) :
  PCalls Tryz.prog 17 [.agg #[v, w], u] m (.int .i64 (neE l ts ph)) := by
 have key : PCalls Tryz.prog 17 [.agg #[v, w], u] [Ls.blX (flatP l), Ls.blX (flatT ts), Ls.blX (flatN ph)] (.int .i64 (neE l ts ph)) := by
  have hN := fun (m : Mem) (e0 : m.at 0 = Ls.blX (flatP l)) (e1 : m.at 1 = Ls.blX (flatT ts)) => rCheckNet_g (m := m) e0 e1 hv hw hl ht
  unfold neE
  by_cases h0 : netE l ts ≠ 0
  ·rw [if_pos h0]
   exact NetErr_e v w u _ _ _ _ _ (ro_bl3 _ _ _) h0 hN
  ·have h0 : netE l ts = 0 := Classical.not_not.1 h0
   have hR := netE_0.1 h0
   have hT := hR.g.1
   have h2 := two_of hR.all hT
   rw [if_neg (fun h => h h0)]
   rw [h0] at hN
   refine NetErr_y v w u _ _ _ _ _ (ro_bl3 _ _ _) hN fun m q0 q1 q2 => ?_
   have f1 : Ls.blX (flatP l) = some ⟨flatP l, false, 0⟩ := if_neg (fun h => by have := (flatP_nil l).1 h; omega)
   rw [(hv.pos (by omega)).1]
   have key2 : ∀ m : Mem, m.at 0 = Ls.blX (flatP l) → m.at 1 = Ls.blX (flatT ts) → m.at 2 = Ls.blX (flatN ph) → PCalls Tryz.prog 68 [.agg #[.slice (some ⟨0, 0, none⟩) l.length INF, w], u] m (.int .i64 (phE l ph)) := fun m r0 r1 r2 => by
    by_cases hz : ph.length = 0
    ·obtain rfl := List.eq_nil_of_length_eq_zero hz
     rw [phE_10 (by simp; omega)]
     rw [(hw.pos hT).1]
     rcases hu with ⟨_, hh, _⟩ | ⟨_, rfl⟩ | ⟨_, rfl⟩
     ·exact absurd hh (by simp)
     ·exact PCalls.two (PhasesErr_e _ l (by omega) INF none _ _ (ro_bl2 (flatP l) (flatT ts))) (flatP_scal l) (flatT_scal ts) r0 r1 rfl rfl rfl rfl
     ·exact PCalls.two (PhasesErr_e _ l (by omega) INF _ _ _ (ro_bl2 (flatP l) (flatT ts))) (flatP_scal l) (flatT_scal ts) r0 r1 rfl rfl rfl rfl
    ·have f3 : Ls.blX (flatN ph) = some ⟨flatN ph, false, 0⟩ := if_neg (fun h => by have := (flatN_nil ph).1 h; omega)
     rw [(hu.pos (by omega)).1, (hw.pos hT).1]
     have hb := PhasesErr_b (.slice (some ⟨1, 0, none⟩) ts.length INF) l ph INF INF 0 hp (Ls.blX (flatP l)) (Ls.blX (flatT ts)) (by rw [← f3]; exact ro_bl3 _ _ _)
     rw [← f3] at hb
     exact PCalls.tri hb (flatP_scal l) (flatT_scal ts) (flatN_scal ph) r0 r1 r2 rfl rfl rfl rfl
   exact key2 m q0 q1 q2
 rcases hv with ⟨_, _, rfl, _⟩ | ⟨_, rfl⟩ | ⟨_, rfl⟩ <;> rcases hw with ⟨_, _, rfl, _⟩ | ⟨_, rfl⟩ | ⟨_, rfl⟩ <;> rcases hu with ⟨_, _, rfl, _⟩ | ⟨_, rfl⟩ | ⟨_, rfl⟩ <;> exact PCalls.tri key (flatP_scal l) (flatT_scal ts) (flatN_scal ph) e0 e1 e2 rfl rfl rfl rfl
end Go.Proofs.YtmohcmghbfhdlaaGreat
end
end
/- Chapter 6: the reference's errors of turns, and the first triangle that turns do not close. -/
section
set_option linter.unusedSimpArgs false
set_option linter.unusedVariables false
section
namespace Go.Me
open Go.Ab Go.Proofs.YtmohcmghbfhdlaaGreat
def tuR (ts : List T3) (xs : List Int) : Int := if xs.length ≠ (edL ts).length then 10 else if xs.any (fun x => !rgB x (-100) 100) = true then 2 else 0
theorem nt_mem {xs : List Int} {k : Nat} (hk : k < xs.length) : nt xs k ∈ xs := by
 unfold nt
 rw [List.getD_eq_getElem?_getD, List.getElem?_eq_getElem hk]
 exact List.getElem_mem hk
theorem tuR_10 {ts : List T3} {xs : List Int} (h : xs.length ≠ (edL ts).length) : tuR ts xs = 10 := if_pos h
theorem tuR_2 {ts : List T3} {xs : List Int} (h : xs.length = (edL ts).length) {k : Nat} (hk : k < xs.length) (h2 : rgB (nt xs k) (-100) 100 = false) : tuR ts xs = 2 := by
 unfold tuR
 rw [if_neg (fun h3 => h3 h), if_pos]
 rw [List.any_eq_true]
 exact ⟨nt xs k, nt_mem hk, by rw [h2]; rfl⟩
theorem tuR_z {ts : List T3} {xs : List Int} (h : xs.length = (edL ts).length) (h2 : ∀ k, k < xs.length → rgB (nt xs k) (-100) 100 = true) : tuR ts xs = 0 := by
 unfold tuR
 rw [if_neg (fun h3 => h3 h), if_neg]
 intro h3
 rw [List.any_eq_true] at h3
 obtain ⟨x, hx, h4⟩ := h3
 obtain ⟨k, hk, rfl⟩ := List.getElem_of_mem hx
 have h5 := h2 k hk
 unfold nt at h5
 rw [List.getD_eq_getElem?_getD, List.getElem?_eq_getElem hk] at h5
 rw [Option.getD_some] at h5
 rw [h5] at h4
 cases h4
theorem tuR_0 {ts : List T3} {xs : List Int} (h : tuR ts xs = 0) : xs.length = (edL ts).length ∧ xs.any (fun x => !rgB x (-100) 100) = false := by
 unfold tuR at h
 by_cases h1 : xs.length ≠ (edL ts).length
 ·rw [if_pos h1] at h; cases h
 ·rw [if_neg h1] at h
  cases h2 : xs.any (fun x => !rgB x (-100) 100) with
  | true => rw [h2, if_pos rfl] at h; cases h
  | false => exact ⟨Classical.not_not.1 h1, rfl⟩
theorem tuE_R {ts : List T3} {ph xs : List Int} : tuE ts ph xs = if tuR ts xs ≠ 0 then tuR ts xs else if fstN (tuT ts ph xs) ts.length ≠ -1 then 21 else 0 := by
 unfold tuE tuR
 by_cases h1 : xs.length ≠ (edL ts).length
 ·simp only [if_pos h1]
  rfl
 ·simp only [if_neg h1]
  by_cases h2 : xs.any (fun x => !rgB x (-100) 100) = true
  ·simp only [if_pos h2]
   rfl
  ·simp only [if_neg h2]
   rfl
end Go.Me
namespace Go.Proofs.YtmohcmghbfhdlaaGreat
open Go Go.RowKit Go.Ab Go.Me
set_option maxRecDepth 100000
set_option maxHeartbeats 4000000
attribute [local irreducible] OQ OW AL AW AF SW
theorem rTurnsErr_e (l : List Pn) (ts : List T3) (hR : NetR l ts) (xa : Option Addr) (c c2 : Nat) :
  PCalls Tryz.prog 18 [.agg #[.slice (some ⟨0, 0, none⟩) l.length c, .slice (some ⟨1, 0, none⟩) ts.length c2], .slice xa 0 0] [some ⟨flatP l, false, 0⟩, some ⟨flatT ts, false, 0⟩] (.int .i64 10) := by
 have hrE := fun (m : Mem) (A B : Blk) (a1 : m.at 0 = some A) (a2 : A.cells = flatP l) (b1 : m.at 1 = some B) (b2 : B.cells = flatT ts) (a3 : A.obj = Ob.plain) (b3 : B.obj = Ob.plain) (a4 : A.esz = 0) (b4 : B.esz = 0) => rEdges_q l ts hR c c2 (by decide) a1 a2 b1 b2 a3 b3 a4 b4
 have hpos := edL_pos hR
 refine PCalls.en 22 Tryz.func18 rfl (ro2p _ _ rfl rfl) rfl (fun E => ?_)
 repeat' (first | with_reducible (first | refine Then.n ?_ | refine Then.r ?_) | ((with_reducible refine AL.on ?_); first | ((first | refine AL.as ?_ | refine AL.mv ?_ | ((with_reducible refine AL.k_call ?_); first | refine AL.g (OQ.lenS (xt := 26) (r := (none, 1, false)) rfl kr) ?_ | refine AL.g (OQ.lenS (xt := 45) (r := (none, 2, true)) rfl kr) ?_) | ((with_reducible refine AL.k_binOp ?_); refine AL.g (OQ.neq rfl rfl) ?_) | ((with_reducible refine AL.k_load ?_); refine AL.g (OQ.loadN (ty := 25) (n := 2) rfl kr kr rfl) ?_)); refine AL.nm ?_) | ((first | ((with_reducible refine AL.k_call ?_); refine AL.acall (g := 31) rfl kr rfl ((by exact hrE _ _ _ rfl rfl rfl rfl rfl rfl rfl rfl)) ?_) | refine AL.bx ?_); refine AL.nm ?_; refine AL.nM ?_) | refine AL.nil ?_) | ((with_reducible refine AW.on ?_); first | refine AW.seq ?_ | refine AW.ret ?_ | refine AW.region ?_ | (refine AW.conds rfl (fun hc => ?_) (fun hc => ?_) <;> (try replace hc := nc hc) <;> first | (exfalso; ((omega); done)) | skip)) | ((with_reducible refine FinP.on ?_); (refine FinP.ret (.tmp wl .nil) ?_ rfl); (try simp only [pack, List.drop, List.take]); all_goals (rfl)))
theorem rTurnsErr_b (l : List Pn) (ts : List T3) (hR : NetR l ts) (xs : List Int) (hl : xs.length ≤ 1000000) (c c2 c3 z : Nat) :
  PCalls Tryz.prog 18 [.agg #[.slice (some ⟨0, 0, none⟩) l.length c, .slice (some ⟨1, 0, none⟩) ts.length c2], .slice (some ⟨2, 0, none⟩) xs.length c3] [some ⟨flatP l, false, 0⟩, some ⟨flatT ts, false, 0⟩, some ⟨flatN xs, false, z⟩] (.int .i64 (tuR ts xs)) := by
 have hrE := fun (m : Mem) (A B : Blk) (a1 : m.at 0 = some A) (a2 : A.cells = flatP l) (b1 : m.at 1 = some B) (b2 : B.cells = flatT ts) (a3 : A.obj = Ob.plain) (b3 : B.obj = Ob.plain) (a4 : A.esz = 0) (b4 : B.esz = 0) => rEdges_q l ts hR c c2 (by decide) a1 a2 b1 b2 a3 b3 a4 b4
 have hg := fun k (hk : k < xs.length) => flatN_get xs k hk
 have hw := fun (n : Int) (m : Mem) => rWithin_q n (-100) 100 m
 have e1 := @tuR_10 ts xs
 have e2 := @tuR_2 ts xs
 have e3 := @tuR_z ts xs
 by_cases hne : xs.length ≠ (edL ts).length
 ·rw [e1 hne]
  refine PCalls.en 22 Tryz.func18 rfl (ro3p _ _ _ rfl rfl rfl) rfl (fun E => ?_)
  repeat' (first | with_reducible (first | refine Then.n ?_ | refine Then.r ?_) | ((with_reducible refine AL.on ?_); first | ((first | refine AL.as ?_ | refine AL.mv ?_ | ((with_reducible refine AL.k_call ?_); first | refine AL.g (OQ.lenS (xt := 26) (r := (none, 1, false)) rfl kr) ?_ | refine AL.g (OQ.lenS (xt := 45) (r := (none, 2, true)) rfl kr) ?_) | ((with_reducible refine AL.k_binOp ?_); refine AL.g (OQ.neq rfl rfl) ?_) | ((with_reducible refine AL.k_load ?_); refine AL.g (OQ.loadN (ty := 25) (n := 2) rfl kr kr rfl) ?_)); refine AL.nm ?_) | ((first | ((with_reducible refine AL.k_call ?_); refine AL.acall (g := 31) rfl kr rfl ((by exact hrE _ _ _ rfl rfl rfl rfl rfl rfl rfl rfl)) ?_) | refine AL.bx ?_); refine AL.nm ?_; refine AL.nM ?_) | refine AL.nil ?_) | ((with_reducible refine AW.on ?_); first | refine AW.seq ?_ | refine AW.ret ?_ | refine AW.region ?_ | (refine AW.conds rfl (fun hc => ?_) (fun hc => ?_) <;> (try replace hc := nc hc) <;> first | (exfalso; ((omega); done)) | skip)) | ((with_reducible refine FinP.on ?_); (refine FinP.ret (.tmp wl .nil) ?_ rfl); (try simp only [pack, List.drop, List.take]); all_goals (rfl)))
 ·have hne : xs.length = (edL ts).length := Classical.not_not.1 hne
  have e2 := fun k hk h2 => e2 (k := k) hne hk h2
  have e3 := fun h2 => e3 hne h2
  generalize tuR ts xs = E0 at *
  refine PCalls.en 22 Tryz.func18 rfl (ro3p _ _ _ rfl rfl rfl) rfl (fun E => ?_)
  repeat' (first | with_reducible (first | refine Then.n ?_ | refine Then.r ?_ | refine Then.x ?_ | refine InB.n ?_ | refine InB.r ?_ | refine InB.hit ?_) | ((with_reducible refine AL.on ?_); first | ((first | refine AL.as ?_ | refine AL.mv ?_ | ((with_reducible refine AL.k_call ?_); first | refine AL.g (OQ.lenS (xt := 26) (r := (none, 1, false)) rfl kr) ?_ | refine AL.g (OQ.lenS (xt := 45) (r := (none, 2, true)) rfl kr) ?_) | ((with_reducible refine AL.k_binOp ?_); first | refine AL.g (OQ.neq rfl rfl) ?_ | refine AL.g (OQ.lss rfl rfl) ?_ | refine AL.g (OQ.addi rfl rfl (by omega)) ?_) | ((with_reducible refine AL.k_load ?_); first | refine AL.g (OQ.loadN (ty := 25) (n := 2) rfl kr kr (by rfl)) ?_ | (refine AL.g (OQ.load1 (ty := 3) rfl kr (by (exact hg k (by omega)))) ?_)) | ((with_reducible refine AL.k_unOp ?_); refine AL.g (OQ.not rfl) ?_)); refine AL.nm ?_) | ((first | ((with_reducible refine AL.k_call ?_); refine AL.pcall (g := 69) rfl kr rfl (hw _ _) ?_) | ((with_reducible refine AL.k_indexAddr ?_); refine AL.g (OQ.idxAddr (ty := 26) (z := 1) (g := false) rfl rfl kr (by omega) (by omega)) ?_)); refine AL.nm ?_) | ((first | ((with_reducible refine AL.k_call ?_); refine AL.acall (g := 31) rfl kr rfl ((by exact hrE _ _ _ rfl rfl rfl rfl rfl rfl rfl rfl)) ?_) | refine AL.bx ?_); refine AL.nm ?_; refine AL.nM ?_) | refine AL.nil ?_) | ((with_reducible refine AW.on ?_); first | refine AW.seq ?_ | refine AW.skip ?_ | refine AW.exit ?_ | refine AW.ret ?_ | ((refine AW.block (id := 0) ?_); (refine AW.fk [1, 5] ?_); (refine AW.loop (fun n' t' m => ∃ k : Nat, n' = xs.length - k ∧ k ≤ xs.length ∧ (∀ j, j < k → rgB (nt xs j) (-100) 100 = true) ∧ t' = (mtz 24 0 [(1, .slice (some ⟨2, 0, none⟩) xs.length c3), (5, .int .i64 (k))]) ∧ m = [some ⟨flatP l, false, 0⟩, some ⟨flatT ts, false, 0⟩, some ⟨flatN xs, false, z⟩, some ⟨[.slice (some ⟨0, 0, none⟩) l.length c, .slice (some ⟨1, 0, none⟩) ts.length c2], true, 0⟩, some ⟨flatP (edL ts), true, 2⟩]) (xs.length) (by exact ⟨0, rfl, Nat.zero_le _, fun j h => absurd h (by omega), rfl, rfl⟩) ?_); (rintro n' t' m ⟨k, rfl, hk, hj, rfl, rfl⟩); (refine AW.nT ?_)) | refine AW.block ?_ | refine AW.region ?_ | (refine AW.conds rfl (fun hc => ?_) (fun hc => ?_) <;> (try replace hc := nc hc) <;> first | (exfalso; ((omega); done)) | skip)) | ((with_reducible refine ex_on ?_); (refine ⟨xs.length - (k + 1), _, _, by omega, ?_, k + 1, rfl, by omega, fun j h => (by rcases Nat.lt_or_eq_of_le (Nat.le_of_lt_succ h) with h | rfl; (exact hj j h); assumption), rfl, rfl⟩; exact Wk.fk [1, 5] rfl)) | ((with_reducible refine FinP.on ?_); (refine FinP.ret (.tmp wl .nil) ?_ rfl); (try simp only [pack, List.drop, List.take]); all_goals (first | (rw [e2 k (by omega) (by assumption)]; done) | (obtain rfl : k = xs.length := (by omega); rw [e3 hj]))))
theorem rTurnsErr_q {m : Mem} {l : List Pn} {ts : List T3} (hR : NetR l ts) {i : Nat} {u : Value} {xs : List Int} {A B : Blk} (c c2 : Nat) (h : SlV m i u (flatN xs) xs.length) (hl : xs.length ≤ 1000000) (hi : [0, 1, i].Nodup) (a1 : m.at 0 = some A) (a2 : A.cells = flatP l) (b1 : m.at 1 = some B) (b2 : B.cells = flatT ts) (a3 : A.obj = Ob.plain) (b3 : B.obj = Ob.plain) (a4 : A.esz = 0) (b4 : B.esz = 0) :
  PCalls Tryz.prog 18 [.agg #[.slice (some ⟨0, 0, none⟩) l.length c, .slice (some ⟨1, 0, none⟩) ts.length c2], u] m (.int .i64 (tuR ts xs)) := by
 have hpos := edL_pos hR
 rcases h with ⟨X, a0, rfl, x1, x2, x3⟩ | ⟨h0, rfl⟩ | ⟨h0, rfl⟩
 ·exact PCalls.viaS [0, 1, i] (rTurnsErr_b l ts hR xs hl c c2 INF X.esz) (ro3p _ _ _ rfl rfl rfl) ⟨bS a1 a3 a2 (flatP_scal _) a4, bS b1 b3 b2 (flatT_scal _) b4, bS x1 x3 x2 (flatN_scal _), trivial⟩ rfl rfl rfl rfl
 ·rw [tuR_10 (by omega)]
  exact PCalls.viaS [0, 1] (rTurnsErr_e l ts hR none c c2) (ro2p _ _ rfl rfl) ⟨bS a1 a3 a2 (flatP_scal _) a4, bS b1 b3 b2 (flatT_scal _) b4, trivial⟩ rfl rfl rfl rfl
 ·rw [tuR_10 (by omega)]
  exact PCalls.viaS [0, 1] (rTurnsErr_e l ts hR (some ⟨5, 0, some default⟩) c c2) (ro2p _ _ rfl rfl) ⟨bS a1 a3 a2 (flatP_scal _) a4, bS b1 b3 b2 (flatT_scal _) b4, trivial⟩ rfl rfl rfl rfl
theorem rClosed_0 (l : List Pn) (ts : List T3) (hR : NetR l ts) (ph xs : List Int) (hph : phE l ph = 0) (htu : tuR ts xs = 0) (c c2 c3 c4 z z3 : Nat) :
  PCalls Tryz.prog 19 [.agg #[.slice (some ⟨0, 0, none⟩) l.length c, .slice (some ⟨1, 0, none⟩) ts.length c2], .slice (some ⟨2, 0, none⟩) ph.length c3, .slice (some ⟨3, 0, none⟩) xs.length c4] [some ⟨flatP l, false, 0⟩, some ⟨flatT ts, false, 0⟩, some ⟨flatN ph, false, z⟩, some ⟨flatN xs, false, z3⟩] (.int .i64 (fstN (tuT ts ph xs) ts.length)) := by
 obtain ⟨hxl, hxa⟩ := tuR_0 htu
 have hxb := anyR_no hxa
 have hx9 : ∀ k, k < xs.length → -1000000000 ≤ nt xs k ∧ nt xs k ≤ 1000000000 := fun k hk => by have := hxb k hk; omega
 have hrK := fun (m : Mem) (A B X : Blk) (a1 : m.at 0 = some A) (a2 : A.cells = flatP l) (b1 : m.at 1 = some B) (b2 : B.cells = flatT ts) (x1 : m.at 2 = some X) (x2 : X.cells = flatN ph) (a3 : A.obj = Ob.plain) (b3 : B.obj = Ob.plain) (x3 : X.obj = Ob.plain) (a4 : A.esz = 0) (b4 : B.esz = 0) => rClosures_q l ts hR ph hph c c2 c3 (by decide) a1 a2 b1 b2 x1 x2 rfl a3 b3 x3 a4 b4
 have har := fun (i : Nat) (m : Mem) (A B X : Blk) (a1 : m.at 0 = some A) (a2 : A.cells = flatP l) (b1 : m.at 1 = some B) (b2 : B.cells = flatT ts) (x1 : m.at 3 = some X) (x2 : X.cells = flatN xs) (a3 : A.obj = Ob.plain) (b3 : B.obj = Ob.plain) (x3 : X.obj = Ob.plain) (a4 : A.esz = 0) (b4 : B.esz = 0) => raround_q (n := xs.length) l ts hR xs hxl hx9 i c c2 c4 a1 a2 b1 b2 x1 x2 rfl a3 b3 x3 a4 b4
 have hle := edL_le ts
 have h80 := hR.le
 have hcl := clL_len ts ph
 have hcb := fun k hk => clL_bd hR ph k hk
 have hab : ∀ k, k < ts.length → -600000000000 ≤ arK ts xs k (edL ts).length ∧ arK ts xs k (edL ts).length ≤ 600000000000 := fun k hk => by
  have := arK_bd (ts := ts) (xs := xs) (i := (k : Int)) hx9 (edL ts).length (by omega)
  omega
 have htt : ∀ k, k < ts.length → nt (clL ts ph) k + arK ts xs k (edL ts).length = tuT ts ph xs k := fun k hk => by
  rw [arK_smL hk _ (Nat.le_refl _)]
  unfold tuT
  omega
 have hg := fun (k : Nat) (hk : k < ts.length) => flatN_get (clL ts ph) k (by omega)
 have fy := fun k (hj : ∀ j, j < k → tuT ts ph xs j = 0) he hk => fstN_yes (f := tuT ts ph xs) (k := k) hj he ts.length hk
 have fn := fstN_no (f := tuT ts ph xs) ts.length
 generalize clL ts ph = CL at *
 generalize tuT ts ph xs = TU at *
 refine PCalls.en 26 Tryz.func19 rfl (ro4p _ _ _ _ rfl rfl rfl rfl) rfl (fun E => ?_)
 repeat' (first | with_reducible (first | refine Then.n ?_ | refine Then.r ?_ | refine Then.x ?_ | refine InB.n ?_ | refine InB.r ?_ | refine InB.hit ?_) | ((with_reducible refine AL.on ?_); first | ((first | refine AL.mv ?_ | refine AL.as ?_ | ((with_reducible refine AL.k_binOp ?_); first | refine AL.g (OQ.lss rfl rfl) ?_ | refine AL.g (OQ.addi rfl rfl (by omega)) ?_ | refine AL.g (OQ.neq rfl rfl) ?_) | ((with_reducible refine AL.k_load ?_); refine AL.g (OQ.loadN (ty := 25) (n := 2) rfl kr kr (by rfl)) ?_) | ((with_reducible refine AL.k_call ?_); refine AL.g (OQ.lenS (xt := 26) (r := (none, 1, false)) rfl kr) ?_)); refine AL.nm ?_) | ((first | ((with_reducible refine AL.k_call ?_); refine AL.acall (g := 34) rfl kr rfl ((by exact hrK _ _ _ _ rfl rfl rfl rfl rfl rfl rfl rfl rfl rfl rfl)) ?_) | refine AL.bx ?_); refine AL.nm ?_; refine AL.nM ?_) | refine AL.nil ?_) | ((with_reducible refine AW.on ?_); first | refine AW.seq ?_ | refine AW.skip ?_ | refine AW.exit ?_ | refine AW.ret ?_ | ((refine AW.block (id := 0) ?_); (refine AW.fk [2, 3, 7, 8] ?_); (refine AW.loop (fun n' t' m => ∃ k : Nat, n' = ts.length - k ∧ k ≤ ts.length ∧ (∀ j, j < k → TU j = 0) ∧ t' = (mtz 29 0 [(2, .slice (some ⟨3, 0, none⟩) xs.length c4), (3, .pointer (some ⟨4, 0, none⟩)), (7, .slice (some ⟨5, 0, none⟩) (ts.length) INF), (8, .int .i64 (k))]) ∧ m = [some ⟨flatP l, false, 0⟩, some ⟨flatT ts, false, 0⟩, some ⟨flatN ph, false, z⟩, some ⟨flatN xs, false, z3⟩, some ⟨[.slice (some ⟨0, 0, none⟩) l.length c, .slice (some ⟨1, 0, none⟩) ts.length c2], true, 0⟩, some ⟨flatN CL, true, 1⟩]) (ts.length) (by exact ⟨0, rfl, Nat.zero_le _, fun j h => absurd h (by omega), rfl, rfl⟩) ?_); (rintro n' t' m ⟨k, rfl, hk, hj, rfl, rfl⟩); (refine AW.nT ?_)) | refine AW.block ?_ | (refine AW.drawF (id := 5) 8 #[0, 0, 3, 7, 0, 0, 0, 112, 255, 511] kr kr ?_; (conv => (arg 8; simp only [List.take_succ_cons, List.take_zero])); ((have q1 := hab k (by omega); have q2 := hcb k (by omega); have q3 := htt k (by omega)))) | refine AW.region ?_ | (refine AW.conds rfl (fun hc => ?_) (fun hc => ?_) <;> (try replace hc := nc hc) <;> skip)) | ((with_reducible refine AF.on ?_); first | ((first | ((with_reducible refine AF.k_move ?_); (refine AF.q 0 (SW.q (OQ.move wl) rfl) ?_)) | ((with_reducible refine AF.k_load ?_); first | (refine AF.ql rfl (SW.q (OQ.load1 (ty := 3) rfl kr (by first | (exact hg k (by omega)) | (conv => lhs; whnf))) rfl) ?_) | refine AF.ql rfl (SW.q (OQ.loadN (ty := 25) (n := 2) rfl kr kr (by rfl)) rfl) ?_) | ((with_reducible refine AF.k_call ?_); refine AF.q 2 (SW.pcall (g := 70) rfl kr rfl ((by exact har k _ _ _ _ rfl rfl rfl rfl rfl rfl rfl rfl rfl rfl rfl)) rfl) ?_) | ((with_reducible refine AF.k_indexAddr ?_); refine AF.q 0 (SW.q (OQ.idxAddr (ty := 26) (z := 1) (g := false) rfl rfl kr (by omega) (by omega)) rfl) ?_)); refine AF.nm ?_) | refine AF.nl ?_) | ((with_reducible refine ex_on ?_); (refine ⟨ts.length - (k + 1), _, _, by omega, ?_, k + 1, rfl, by omega, fun j h => (by rcases Nat.lt_or_eq_of_le (Nat.le_of_lt_succ h) with h | rfl; (exact hj j h); (have := htt j (by omega); omega)), rfl, rfl⟩; exact Wk.fk [2, 3, 7, 8] rfl)) | ((with_reducible refine FinP.on ?_); (refine FinP.ret (.tmp wl .nil) ?_ rfl); (try simp only [pack, List.drop, List.take]); all_goals (first | (rw [fy k hj (by omega) (by omega)]; done) | (obtain rfl : k = ts.length := (by omega); rw [fn hj]))))
theorem rClosed_q {m : Mem} {bP bT bF bX n n' : Nat} {A B F X : Blk} (l : List Pn) (ts : List T3) (hR : NetR l ts) (ph xs : List Int) (hph : phE l ph = 0) (htu : tuR ts xs = 0) (c c2 c3 c4 : Nat) (a1 : m.at bP = some A) (a2 : A.cells = flatP l) (b1 : m.at bT = some B) (b2 : B.cells = flatT ts) (f1 : m.at bF = some F) (f2 : F.cells = flatN ph) (hn : ph.length = n) (x1 : m.at bX = some X) (x2 : X.cells = flatN xs) (hn' : xs.length = n') (a3 : A.obj = Ob.plain) (b3 : B.obj = Ob.plain) (f3 : F.obj = Ob.plain) (x3 : X.obj = Ob.plain) (a4 : A.esz = 0) (b4 : B.esz = 0) :
  PCalls Tryz.prog 19 [.agg #[.slice (some ⟨bP, 0, none⟩) l.length c, .slice (some ⟨bT, 0, none⟩) ts.length c2], .slice (some ⟨bF, 0, none⟩) n c3, .slice (some ⟨bX, 0, none⟩) n' c4] m (.int .i64 (fstN (tuT ts ph xs) ts.length)) := by
 subst hn hn'
 exact PCalls.viaS [bP, bT, bF, bX] (rClosed_0 l ts hR ph xs hph htu c c2 c3 c4 F.esz X.esz) (ro4p _ _ _ _ rfl rfl rfl rfl) ⟨bS a1 a3 a2 (flatP_scal _) a4, bS b1 b3 b2 (flatT_scal _) b4, bS f1 f3 f2 (flatN_scal _), bS x1 x3 x2 (flatN_scal _), trivial⟩ rfl rfl rfl rfl
end Go.Proofs.YtmohcmghbfhdlaaGreat
end
end
/- Chapter 6 in plain Lean: nets: sums over directed edges; what is left is the border; a border goes round the hull a whole number of times. -/
section
set_option linter.unusedSimpArgs false
set_option linter.unusedVariables false
namespace Go.Me
def su {α : Type} (l : List α) (f : α → Int) : Int := (l.map f).sum
section
variable {α β : Type}
theorem su_nil (f : α → Int) : su [] f = 0 := rfl
theorem su_cons (a : α) (l : List α) (f : α → Int) : su (a :: l) f = f a + su l f := rfl
theorem su_app (l k : List α) (f : α → Int) : su (l ++ k) f = su l f + su k f := by
 induction l with
 | nil => rw [List.nil_append, su_nil]; omega
 | cons a l ih => rw [List.cons_append, su_cons, su_cons, ih]; omega
theorem su_add (l : List α) (f g : α → Int) : su l (fun a => f a + g a) = su l f + su l g := by
 induction l with
 | nil => rfl
 | cons a l ih => rw [su_cons, su_cons, su_cons, ih]; omega
theorem su_sub (l : List α) (f g : α → Int) : su l (fun a => f a - g a) = su l f - su l g := by
 induction l with
 | nil => rfl
 | cons a l ih => rw [su_cons, su_cons, su_cons, ih]; omega
theorem su_zero (l : List α) : su l (fun _ => 0) = 0 := by
 induction l with
 | nil => rfl
 | cons a l ih => rw [su_cons, ih]; rfl
theorem su_congr {l : List α} {f g : α → Int} (h : ∀ a ∈ l, f a = g a) : su l f = su l g := by
 unfold su
 rw [List.map_congr_left h]
end
abbrev Ed := Nat × Nat
def sw (e : Ed) : Ed := (e.2, e.1)
def bd (l : List Ed) : List Ed := l.filter fun e => !l.contains (sw e)
end Go.Me
end
