/- MeshDisperses: the statement's loop (one to six scatterers). -/
import Derived.Test.YtmohcmghbfhdlaaGreatQd
import Derived.Test.YtmohcmghbfhdlaaGreatQv
import Derived.Test.YtmohcmghbfhdlaaGreatQh
section
set_option linter.unusedSimpArgs false
set_option linter.unusedVariables false
section
namespace Go.Me
open Go.Ab
def CB (a : Nat → List Int) (k j : Nat) : Option Blk := if j < k then some ⟨flatN (a j), true, 1⟩ else none
def cpV (i : Nat) (xs : List Int) : Value := .slice (some ⟨i, 0, none⟩) xs.length (cpC xs.length)
def owL (S : List Sc) (a : Nat → List Int) (k : Nat) : List Sc := (List.range k).map fun j => ((sc S j).1, cpV (8 + j) (a j))
theorem owL_len (S : List Sc) (a : Nat → List Int) (k : Nat) : (flatS (owL S a k)).length = k * 3 := (Ls.flat_len scC 3 (fun _ => rfl) (owL S a k)).trans (by unfold owL; rw [List.length_map, List.length_range])
end Go.Me
namespace Go.Proofs.YtmohcmghbfhdlaaGreat
open Go Go.RowKit Go.Ab Go.Me
set_option maxRecDepth 100000
set_option maxHeartbeats 4000000
attribute [local irreducible] OQ OW AL AW AF SW
theorem MeshDisperses_w (S : List Sc) (a : Nat → List Int) (u d : Int) (h1 : 0 < S.length) (h6 : S.length ≤ 6) (XA : Nat → Option Addr) (XC : Nat → Nat)
  (hgb : ∀ k, k < S.length → ∀ r : Mem, ((Mem.at (some ⟨flatS S, false, 0⟩ :: r) 0).bind fun x => x.cells[k * 3 + 2]?) = some (.slice (XA k) (a k).length (XC k)))
  (hld : ∀ k, k < S.length → ∀ r : Mem, Mem.ld (some ⟨flatS S, false, 0⟩ :: r) 0 (k * 3) 2 = some [.int .i64 (sc S k).1.x, .int .i64 (sc S k).1.y])
  (hA : ∀ k, k < S.length → (a k).length ≤ 1000000 → ∀ r : Mem, PCalls Tryz.prog 49 [.slice (XA k) (a k).length (XC k)] (some ⟨flatS S, false, 0⟩ :: some ⟨flatN (a 0), false, 0⟩ :: some ⟨flatN (a 1), false, 0⟩ :: some ⟨flatN (a 2), false, 0⟩ :: some ⟨flatN (a 3), false, 0⟩ :: some ⟨flatN (a 4), false, 0⟩ :: some ⟨flatN (a 5), false, 0⟩ :: r) (.int .i64 (dsE (a k))))
  (hD : ∀ k, k < S.length → dsE (a k) = 0 → ∀ r : Mem, PCalls Tryz.prog 50 [.slice (XA k) (a k).length (XC k)] (some ⟨flatS S, false, 0⟩ :: some ⟨flatN (a 0), false, 0⟩ :: some ⟨flatN (a 1), false, 0⟩ :: some ⟨flatN (a 2), false, 0⟩ :: some ⟨flatN (a 3), false, 0⟩ :: some ⟨flatN (a 4), false, 0⟩ :: some ⟨flatN (a 5), false, 0⟩ :: r) (.agg #[.int .i64 (dsA (a k)), .int .i64 (dsB (a k))]))
  (hI : ∀ k, k < S.length → (a k).length ≤ 1000000 → ∀ r : Mem, ACalls Tryz.prog 16 [.slice (XA k) (a k).length (XC k)] (some ⟨flatS S, false, 0⟩ :: some ⟨flatN (a 0), false, 0⟩ :: some ⟨flatN (a 1), false, 0⟩ :: some ⟨flatN (a 2), false, 0⟩ :: some ⟨flatN (a 3), false, 0⟩ :: some ⟨flatN (a 4), false, 0⟩ :: some ⟨flatN (a 5), false, 0⟩ :: r) (.slice (some ⟨r.length + 7, 0, none⟩) (a k).length (cpC (a k).length)) (some ⟨flatS S, false, 0⟩ :: some ⟨flatN (a 0), false, 0⟩ :: some ⟨flatN (a 1), false, 0⟩ :: some ⟨flatN (a 2), false, 0⟩ :: some ⟨flatN (a 3), false, 0⟩ :: some ⟨flatN (a 4), false, 0⟩ :: some ⟨flatN (a 5), false, 0⟩ :: (r ++ [some ⟨flatN (a k), true, 1⟩])))
  (hP : ∀ k, k < S.length → ∀ (m : Mem) (b c : Nat) (blk : Blk), m.at b = some blk → blk.cells = flatN (a k) → (a k).length ≤ 1000000 → blk.obj = Ob.plain → PCalls Tryz.prog 48 [.slice (some ⟨b, 0, none⟩) (a k).length c] m (.tuple #[.agg #[.int .i64 (dsA (a k)), .int .i64 (dsB (a k))], .int .i64 (dsE (a k))]))
  (hk7 : ∀ n, 7 ≤ n → ∀ v ∈ flatS S, kp n v)
  (hz : ∀ k, ¬ dsE (a k) = 0 → dsA (a k) = 0 ∧ dsB (a k) = 0)
  (X : Int) (R : List Int) (hRl : R.length ≤ 1000000)
  (hCO : (∀ j, j < S.length → (a j).length ≤ 62) → ACalls Tryz.prog 51 [.slice (some ⟨14, 0, none⟩) S.length INF, .agg #[.int .i64 u, .int .i64 d]] [some ⟨flatS S, false, 0⟩, some ⟨flatN (a 0), false, 0⟩, some ⟨flatN (a 1), false, 0⟩, some ⟨flatN (a 2), false, 0⟩, some ⟨flatN (a 3), false, 0⟩, some ⟨flatN (a 4), false, 0⟩, some ⟨flatN (a 5), false, 0⟩, some ⟨[.int .i64 u, .int .i64 d], true, 0⟩, CB a S.length 0, CB a S.length 1, CB a S.length 2, CB a S.length 3, CB a S.length 4, CB a S.length 5, some ⟨flatS (owL S a S.length), true, 3⟩] (.tuple #[oV 15 R, .int .i64 X]) [some ⟨flatS S, false, 0⟩, some ⟨flatN (a 0), false, 0⟩, some ⟨flatN (a 1), false, 0⟩, some ⟨flatN (a 2), false, 0⟩, some ⟨flatN (a 3), false, 0⟩, some ⟨flatN (a 4), false, 0⟩, some ⟨flatN (a 5), false, 0⟩, some ⟨[.int .i64 u, .int .i64 d], true, 0⟩, CB a S.length 0, CB a S.length 1, CB a S.length 2, CB a S.length 3, CB a S.length 4, CB a S.length 5, some ⟨flatS (owL S a S.length), true, 3⟩, oB R])
  (hRO : (∀ j, j < S.length → (a j).length ≤ 62) → ∀ r : Mem, ACalls Tryz.prog 52 [.slice (some ⟨0, 0, none⟩) S.length INF, .agg #[.int .i64 u, .int .i64 d]] (some ⟨flatS S, false, 0⟩ :: some ⟨flatN (a 0), false, 0⟩ :: some ⟨flatN (a 1), false, 0⟩ :: some ⟨flatN (a 2), false, 0⟩ :: some ⟨flatN (a 3), false, 0⟩ :: some ⟨flatN (a 4), false, 0⟩ :: some ⟨flatN (a 5), false, 0⟩ :: r) (.tuple #[oV (r.length + 7) R, .int .i64 X]) (some ⟨flatS S, false, 0⟩ :: some ⟨flatN (a 0), false, 0⟩ :: some ⟨flatN (a 1), false, 0⟩ :: some ⟨flatN (a 2), false, 0⟩ :: some ⟨flatN (a 3), false, 0⟩ :: some ⟨flatN (a 4), false, 0⟩ :: some ⟨flatN (a 5), false, 0⟩ :: (r ++ [oB R])))
  (hr : Mem.ro [some ⟨flatS S, false, 0⟩, some ⟨flatN (a 0), false, 0⟩, some ⟨flatN (a 1), false, 0⟩, some ⟨flatN (a 2), false, 0⟩, some ⟨flatN (a 3), false, 0⟩, some ⟨flatN (a 4), false, 0⟩, some ⟨flatN (a 5), false, 0⟩]) :
  PCalls Tryz.prog 9 [.slice (some ⟨0, 0, none⟩) S.length INF, .agg #[.int .i64 u, .int .i64 d]] [some ⟨flatS S, false, 0⟩, some ⟨flatN (a 0), false, 0⟩, some ⟨flatN (a 1), false, 0⟩, some ⟨flatN (a 2), false, 0⟩, some ⟨flatN (a 3), false, 0⟩, some ⟨flatN (a 4), false, 0⟩, some ⟨flatN (a 5), false, 0⟩] (.bool true) := by
 refine PCalls.enJ 135 Tryz.func9 rfl (hr) rfl (fun E hE => ?_)
 repeat' (first | with_reducible (first | refine Then.n ?_ | refine Then.r ?_ | refine Then.x ?_ | refine InB.n ?_ | refine InB.r ?_ | refine InB.hit ?_ | refine InB.miss (by decide) ?_) | ((with_reducible refine AL.on ?_); first | (refine AL.gd rfl ?_; first | (refine AL.gskip rfl rfl ?_; refine AL.nm ?_) | (refine AL.gs1 rfl rfl (fun hc => ?_) (fun hc => ?_) <;> (try replace hc := nc hc) <;> first | (exfalso; first | contradiction | (first | omega | (exact absurd (Prod.ext (hz _ ‹_›).1 (hz _ ‹_›).2) hc) | (simp at hc; done)); done) | refine AL.nm ?_) | (refine AL.gs0 rfl rfl (fun hc => ?_) (fun hc => ?_) <;> (try replace hc := nc hc) <;> first | (exfalso; first | contradiction | (first | omega | (exact absurd (Prod.ext (hz _ ‹_›).1 (hz _ ‹_›).2) hc) | (simp at hc; done)); done) | refine AL.nm ?_)) | ((first | ((with_reducible refine AL.k_move ?_); first | refine AL.mv ?_) | ((with_reducible refine AL.k_call ?_); first | refine AL.g (OQ.lenS (xt := 77) (r := (none, 3, true)) rfl kr) ?_ | refine AL.g (OQ.lenS (xt := 26) (r := (none, 1, false)) rfl kr) ?_) | ((with_reducible refine AL.k_assign ?_); first | refine AL.as ?_) | ((with_reducible refine AL.k_binOp ?_); first | refine AL.g (OQ.gtr rfl rfl) ?_ | refine AL.g (OQ.leq rfl rfl) ?_ | refine AL.g (OQ.lss rfl rfl) ?_ | refine AL.q rfl (nel_t52 rfl rfl) ?_ | refine AL.g (OQ.addi rfl rfl (by omega)) ?_ | refine AL.g (OQ.add rfl rfl) ?_ | refine AL.g (OQ.eql rfl rfl) ?_) | ((with_reducible refine AL.k_load ?_); first | (refine AL.g (OQ.load1 (ty := 26) rfl kr (by first | (first | rfl | (with_reducible apply hgb; apply Int.ofNat_lt.1; assumption) | (with_reducible apply hld; apply Int.ofNat_lt.1; assumption) | (apply hgb; apply Int.ofNat_lt.1; assumption) | (apply hld; apply Int.ofNat_lt.1; assumption)) | (conv => lhs; whnf))) ?_) | (refine AL.g (OQ.loadN (ty := 79) (n := 2) rfl kr kr (by first | (first | rfl | (with_reducible apply hgb; apply Int.ofNat_lt.1; assumption) | (with_reducible apply hld; apply Int.ofNat_lt.1; assumption) | (apply hgb; apply Int.ofNat_lt.1; assumption) | (apply hld; apply Int.ofNat_lt.1; assumption)) | rfl)) ?_)) | ((with_reducible refine AL.k_pick ?_); first | refine AL.pT ?_ | refine AL.pF ?_) | ((with_reducible refine AL.k_extract ?_); first | refine AL.et ?_) | ((with_reducible refine AL.k_unOp ?_); first | refine AL.g (OQ.not rfl) ?_)); refine AL.nm ?_) | ((first | ((with_reducible refine AL.k_call ?_); first | refine AL.pcall (g := 12) rfl kr rfl ((by exact awake_q _)) ?_ | refine AL.pcall (g := 48) rfl kr rfl ((by exact hP k (by omega) _ _ _ _ rfl rfl (by omega) rfl)) ?_ | refine AL.pcall (g := 49) rfl kr rfl ((by exact hA k (by omega) (by omega) _)) ?_ | refine AL.pcall (g := 20) rfl kr rfl ((by exact Ints_o R rfl rfl hRl)) ?_) | ((with_reducible refine AL.k_indexAddr ?_); first | refine AL.g (OQ.idxAddr (ty := 77) (z := 3) (g := true) rfl rfl kr (by first | omega | decide) (by first | omega | decide)) ?_) | ((with_reducible refine AL.k_fieldAddr ?_); first | refine AL.g (OQ.fieldA (ty := 81) (i := 1) (n := 1) (off := 2) (g := false) rfl kr (by decide)) ?_)); refine AL.nm ?_) | ((first | ((with_reducible refine AL.k_call ?_); first | refine AL.acall (g := 16) rfl kr rfl ((by exact hI k (by omega) (by omega) _)) ?_ | refine AL.w rfl (by first | exact OW.appendNil (e := 81) (z := 3) (zs := [.int .i64 0, .int .i64 0, .slice none 0 0]) (by' := 40) rfl rfl kr kr kr rfl kr (by decide) rfl (by decide) (by decide) | exact OW.appendL (e := 81) (z := 3) (zs := [.int .i64 0, .int .i64 0, .slice none 0 0]) (by' := 40) rfl rfl kr kr kr rfl kr (by decide) rfl rfl rfl (by decide) (by exact owL_len _ _ _) rfl rfl (by omega) (by omega)) ?_ | refine AL.acall (g := 51) rfl kr rfl ((by exact hCO hj)) ?_ | refine AL.acall (g := 52) rfl kr rfl ((by exact hRO hj _)) ?_) | ((with_reducible refine AL.k_box ?_); first | refine AL.bx ?_) | ((with_reducible refine AL.k_alloc ?_); first | refine AL.w rfl (OW.alloc (ty := 52) (z := [.int .i64 0, .int .i64 0]) kr rfl) ?_) | ((with_reducible refine AL.k_store ?_); first | (refine AL.w rfl (OW.store (ty := 52) (n := 2) rfl wl rfl rfl kr rfl rfl (by decide) rfl (Nat.le_of_ble_eq_true rfl) (by intro r h; cases h)) ?_))); refine AL.nm ?_; refine AL.nM ?_) | (refine AL.bs rfl (fun hc => ?_) (fun hc => ?_) <;> (fail_if_success (with_reducible exact lit_no hc)) <;> (try replace hc := nc hc) <;> first | (exfalso; first | contradiction | (first | omega | (exact absurd (Prod.ext (hz _ ‹_›).1 (hz _ ‹_›).2) hc) | (simp at hc; done)); done) | refine AL.nm ?_) | refine AL.nil ?_) | ((with_reducible refine AW.on ?_); first | refine AW.seq ?_ | refine AW.skip ?_ | refine AW.exit ?_ | refine AW.ret ?_ | ((refine AW.block (id := 0) ?_); (refine AW.fk [0, 3, 5, 6] ?_); (refine AW.loop (fun n' t' m => ∃ k : Nat, n' = S.length - k ∧ k ≤ S.length ∧ (∀ j, j < k → (a j).length ≤ 62) ∧ ((k = 0 ∧ t' = [.slice (some ⟨0, 0, none⟩) S.length INF, jk, jk, .pointer (some ⟨7, 0, none⟩), jk, .slice none 0 0, .int .i64 (k), jk, jk, jk, jk, jk, jk, jk, jk, jk, jk, jk, jk, jk, jk, jk, jk, jk, jk, jk, jk, jk, jk, jk, jk, jk, jk, jk, jk, jk, jk, jk, jk, jk, jk, jk, jk, jk, jk, jk, jk, jk, jk, jk, jk, jk, jk, jk, jk, jk, jk, jk, jk, jk, jk, jk, jk, jk, jk, jk, jk, jk, jk, jk, jk, jk, jk, jk, jk, jk, jk, jk, jk, jk, jk, jk, jk, jk, jk, jk, jk, jk, jk, jk, jk, jk, jk, jk, jk, jk, jk, jk, jk, jk, jk, jk, jk, jk, jk, jk, jk, jk, jk, jk, jk, jk, jk, jk, jk, jk, jk, jk, jk, jk, jk, jk, jk, jk, jk, jk, jk, jk, jk, jk, jk, jk, jk, jk, jk, jk, jk] ∧ m = [some ⟨flatS S, false, 0⟩, some ⟨flatN (a 0), false, 0⟩, some ⟨flatN (a 1), false, 0⟩, some ⟨flatN (a 2), false, 0⟩, some ⟨flatN (a 3), false, 0⟩, some ⟨flatN (a 4), false, 0⟩, some ⟨flatN (a 5), false, 0⟩, some ⟨[.int .i64 u, .int .i64 d], true, 0⟩]) ∨ (0 < k ∧ t' = [.slice (some ⟨0, 0, none⟩) S.length INF, jk, jk, .pointer (some ⟨7, 0, none⟩), jk, .slice (some ⟨14, 0, none⟩) (k) INF, .int .i64 (k), jk, jk, jk, jk, jk, jk, jk, jk, jk, jk, jk, jk, jk, jk, jk, jk, jk, jk, jk, jk, jk, jk, jk, jk, jk, jk, jk, jk, jk, jk, jk, jk, jk, jk, jk, jk, jk, jk, jk, jk, jk, jk, jk, jk, jk, jk, jk, jk, jk, jk, jk, jk, jk, jk, jk, jk, jk, jk, jk, jk, jk, jk, jk, jk, jk, jk, jk, jk, jk, jk, jk, jk, jk, jk, jk, jk, jk, jk, jk, jk, jk, jk, jk, jk, jk, jk, jk, jk, jk, jk, jk, jk, jk, jk, jk, jk, jk, jk, jk, jk, jk, jk, jk, jk, jk, jk, jk, jk, jk, jk, jk, jk, jk, jk, jk, jk, jk, jk, jk, jk, jk, jk, jk, jk, jk, jk, jk, jk, jk, jk] ∧ m = [some ⟨flatS S, false, 0⟩, some ⟨flatN (a 0), false, 0⟩, some ⟨flatN (a 1), false, 0⟩, some ⟨flatN (a 2), false, 0⟩, some ⟨flatN (a 3), false, 0⟩, some ⟨flatN (a 4), false, 0⟩, some ⟨flatN (a 5), false, 0⟩, some ⟨[.int .i64 u, .int .i64 d], true, 0⟩, CB a k 0, CB a k 1, CB a k 2, CB a k 3, CB a k 4, CB a k 5, some ⟨flatS (owL S a k), true, 3⟩]))) (S.length) (by exact ⟨0, rfl, Nat.zero_le _, fun j h => absurd h (by omega), .inl ⟨rfl, rfl, rfl⟩⟩) ?_); (rintro n' t' m ⟨k, rfl, hk, hj, (⟨hk0, rfl, rfl⟩ | ⟨hk1, rfl, rfl⟩)⟩)) | refine AW.block ?_ | (refine AW.drawF (id := 13) 23 #[0, 0, 3, 7, 15, 31, 63, 127, 127, 511, 1023, 2047, 4095, 8191, 16383, 32767, 65535, 65535, 65535, 458751, 983039, 2031615, 4128767, 8388607, 16777215, 33554431] kr kr ?_; (conv => (arg 8; simp only [List.take_succ_cons, List.take_zero]))) | (refine AW.drawF (id := 15) 14 #[0, 0, 0, 6, 14, 30, 0, 0, 192, 448, 960, 1984, 4094, 8190, 16383, 32767] kr kr ?_; (conv => (arg 8; simp only [List.take_succ_cons, List.take_zero]))) | (refine AW.region (id := 16) ?_; ((obtain rfl : k = S.length := (by omega)))) | refine AW.region ?_ | (refine AW.conds rfl (fun hc => ?_) (fun hc => ?_) <;> (try replace hc := nc hc) <;> first | (exfalso; first | contradiction | (first | omega | (exact absurd (Prod.ext (hz _ ‹_›).1 (hz _ ‹_›).2) hc) | (simp at hc; done)); done) | skip)) | ((with_reducible refine AF.on ?_); first | (refine AF.q 0 (SW.skip rfl rfl) ?_; refine AF.nm ?_) | ((first | refine AF.q 0 (SW.no1 rfl rfl (by with_reducible rfl)) ?_ | refine AF.q 0 (SW.no0 rfl rfl (by with_reducible rfl)) ?_); refine AF.nm ?_) | ((first | ((with_reducible refine AF.k_move ?_); first | (refine AF.q 0 (SW.q (OQ.move wl) rfl) ?_) | (refine AF.q 0 (SW.yes (SW.q (OQ.move wl) rfl) rfl rfl (by with_reducible rfl)) ?_)) | ((with_reducible refine AF.k_call ?_); first | refine AF.q 2 (SW.yes (SW.pcall (g := 50) rfl kr rfl ((by exact hD k (by omega) (by assumption) _)) rfl) rfl rfl (by with_reducible rfl)) ?_) | ((with_reducible refine AF.k_binOp ?_); first | refine AF.q 0 (SW.q (OQ.neq rfl rfl) rfl) ?_ | refine AF.q 0 (SW.yes (SW.q (OQ.neq rfl rfl) rfl) rfl rfl (by with_reducible rfl)) ?_ | refine AF.q 0 (SW.yes (SW.q (nel_t52 rfl rfl) rfl) rfl rfl (by with_reducible rfl)) ?_ | refine AF.q 0 (SW.yes (SW.q (OQ.eql rfl rfl) rfl) rfl rfl (by with_reducible rfl)) ?_) | ((with_reducible refine AF.k_load ?_); first | (refine AF.ql rfl (SW.yes (SW.q (OQ.loadN (ty := 52) (n := 2) rfl kr kr (by first | (first | rfl | (with_reducible apply hgb; apply Int.ofNat_lt.1; assumption) | (with_reducible apply hld; apply Int.ofNat_lt.1; assumption) | (apply hgb; apply Int.ofNat_lt.1; assumption) | (apply hld; apply Int.ofNat_lt.1; assumption)) | rfl)) rfl) rfl rfl (by with_reducible rfl)) ?_) | (refine AF.ql rfl (SW.yes (SW.q (OQ.load1 (ty := 26) rfl kr (by first | (first | rfl | (with_reducible apply hgb; apply Int.ofNat_lt.1; assumption) | (with_reducible apply hld; apply Int.ofNat_lt.1; assumption) | (apply hgb; apply Int.ofNat_lt.1; assumption) | (apply hld; apply Int.ofNat_lt.1; assumption)) | (conv => lhs; whnf))) rfl) rfl rfl (by with_reducible rfl)) ?_) | (refine AF.ql rfl (SW.q (OQ.loadN (ty := 65) (n := 2) rfl kr kr (by first | (first | rfl | (with_reducible apply hgb; apply Int.ofNat_lt.1; assumption) | (with_reducible apply hld; apply Int.ofNat_lt.1; assumption) | (apply hgb; apply Int.ofNat_lt.1; assumption) | (apply hld; apply Int.ofNat_lt.1; assumption)) | rfl)) rfl) ?_) | (refine AF.ql rfl (SW.q (OQ.load1 (ty := 26) rfl kr (by first | (first | rfl | (with_reducible apply hgb; apply Int.ofNat_lt.1; assumption) | (with_reducible apply hld; apply Int.ofNat_lt.1; assumption) | (apply hgb; apply Int.ofNat_lt.1; assumption) | (apply hld; apply Int.ofNat_lt.1; assumption)) | (conv => lhs; whnf))) rfl) ?_)) | ((with_reducible refine AF.k_pick ?_); first | (refine AF.q 0 (SW.yes (SW.q (OQ.pickT rfl (by with_reducible rfl) wl) rfl) rfl rfl (by with_reducible rfl)) ?_) | (refine AF.q 0 (SW.yes (SW.q (OQ.pickF rfl (by with_reducible rfl) wl) rfl) rfl rfl (by with_reducible rfl)) ?_) | (refine AF.q 0 (SW.q (OQ.pickT rfl (by with_reducible rfl) wl) rfl) ?_) | (refine AF.q 0 (SW.q (OQ.pickF rfl (by with_reducible rfl) wl) rfl) ?_)) | ((with_reducible refine AF.k_indexAddr ?_); first | refine AF.q 0 (SW.yes (SW.q (OQ.idxAddr (ty := 77) (z := 3) (g := true) rfl rfl kr (by first | omega | decide) (by first | omega | decide)) rfl) rfl rfl (by with_reducible rfl)) ?_ | refine AF.q 0 (SW.q (OQ.idxAddr (ty := 77) (z := 3) (g := true) rfl rfl kr (by first | omega | decide) (by first | omega | decide)) rfl) ?_) | ((with_reducible refine AF.k_fieldAddr ?_); first | refine AF.q 0 (SW.yes (SW.q (OQ.fieldA (ty := 81) (i := 1) (n := 1) (off := 2) (g := false) rfl kr (by decide)) rfl) rfl rfl (by with_reducible rfl)) ?_ | refine AF.q 0 (SW.q (OQ.fieldA (ty := 81) (i := 0) (n := 2) (off := 0) (g := true) rfl kr (by decide)) rfl) ?_ | refine AF.q 0 (SW.q (OQ.fieldA (ty := 81) (i := 1) (n := 1) (off := 2) (g := false) rfl kr (by decide)) rfl) ?_) | ((with_reducible refine AF.k_build ?_); first | refine AF.q 0 (SW.yes (SW.q (OQ.buildA (ty := 52) (zs := [.int .i64 0, .int .i64 0]) (n := 1) (k := 2) (g := false) kr rfl kr rfl rfl rfl) rfl) rfl rfl (by with_reducible rfl)) ?_ | refine AF.q 0 (SW.q (OQ.buildS (ty := 81) (zs := [.int .i64 0, .int .i64 0, .slice none 0 0]) (pls := [(0, 2), (2, 1)]) kr rfl kr rfl rfl rfl) rfl) ?_)); refine AF.nm ?_) | ((first | ((with_reducible refine AF.k_call ?_); first | refine AF.n1 2 (SW.acall (g := 16) rfl kr rfl ((by exact hI k (by omega) (by omega) _)) rfl) rfl ?_) | ((with_reducible refine AF.k_buildSlice ?_); first | refine AF.n1 0 (SW.w (OW.buildSl (ty := 77) (zs := [.int .i64 0, .int .i64 0, .slice none 0 0]) (n := 3) (g := true) kr kr rfl rfl rfl (by decide) (by decide) rfl rfl) rfl) rfl ?_)); refine AF.nm ?_; (conv => (arg 10; try tactic => exact nrmF))) | (refine AF.bs rfl (fun hc => ?_) (fun hc => ?_) <;> (fail_if_success (with_reducible exact lit_no hc)) <;> (try replace hc := nc hc) <;> first | (exfalso; first | contradiction | (first | omega | (exact absurd (Prod.ext (hz _ ‹_›).1 (hz _ ‹_›).2) hc) | (simp at hc; done)); done) | skip) | (refine AF.gs1 rfl rfl (fun hc => ?_) (fun hc => ?_) <;> (fail_if_success (with_reducible exact lit_no hc)) <;> (try replace hc := nc hc) <;> first | (exfalso; first | contradiction | (first | omega | (exact absurd (Prod.ext (hz _ ‹_›).1 (hz _ ‹_›).2) hc) | (simp at hc; done)); done) | skip) | (refine AF.gs0 rfl rfl (fun hc => ?_) (fun hc => ?_) <;> (fail_if_success (with_reducible exact lit_no hc)) <;> (try replace hc := nc hc) <;> first | (exfalso; first | contradiction | (first | omega | (exact absurd (Prod.ext (hz _ ‹_›).1 (hz _ ‹_›).2) hc) | (simp at hc; done)); done) | skip) | refine AF.nl ?_) | ((with_reducible refine ex_on ?_); (have hj1 : ∀ j, j < k + 1 → (a j).length ≤ 62 := (fun j h => by rcases Nat.lt_or_eq_of_le (Nat.le_of_lt_succ h) with h | rfl; (exact hj j h); (omega)); first | (obtain rfl := hk0; refine ⟨S.length - (0 + 1), [.slice (some ⟨0, 0, none⟩) S.length INF, jk, jk, .pointer (some ⟨7, 0, none⟩), jk, .slice (some ⟨14, 0, none⟩) (0 + 1) INF, .int .i64 (((0 + 1 : Nat) : Int)), jk, jk, jk, jk, jk, jk, jk, jk, jk, jk, jk, jk, jk, jk, jk, jk, jk, jk, jk, jk, jk, jk, jk, jk, jk, jk, jk, jk, jk, jk, jk, jk, jk, jk, jk, jk, jk, jk, jk, jk, jk, jk, jk, jk, jk, jk, jk, jk, jk, jk, jk, jk, jk, jk, jk, jk, jk, jk, jk, jk, jk, jk, jk, jk, jk, jk, jk, jk, jk, jk, jk, jk, jk, jk, jk, jk, jk, jk, jk, jk, jk, jk, jk, jk, jk, jk, jk, jk, jk, jk, jk, jk, jk, jk, jk, jk, jk, jk, jk, jk, jk, jk, jk, jk, jk, jk, jk, jk, jk, jk, jk, jk, jk, jk, jk, jk, jk, jk, jk, jk, jk, jk, jk, jk, jk, jk, jk, jk, jk, jk], [some ⟨flatS S, false, 0⟩, some ⟨flatN (a 0), false, 0⟩, some ⟨flatN (a 1), false, 0⟩, some ⟨flatN (a 2), false, 0⟩, some ⟨flatN (a 3), false, 0⟩, some ⟨flatN (a 4), false, 0⟩, some ⟨flatN (a 5), false, 0⟩, some ⟨[.int .i64 u, .int .i64 d], true, 0⟩, CB a (0 + 1) 0, CB a (0 + 1) 1, CB a (0 + 1) 2, CB a (0 + 1) 3, CB a (0 + 1) 4, CB a (0 + 1) 5, some ⟨flatS (owL S a (0 + 1)), true, 3⟩], by omega, ?_, 0 + 1, rfl, by omega, hj1, .inr ⟨by omega, rfl, rfl⟩⟩; exact Wk.keep 8 [10, 41, 42, 43, 44, 45, 12] (by rw [hE]; exact Nat.le_of_ble_eq_true rfl) rfl rfl (by repeat (first | exact RenT.nil | refine RenT.jk ?_ | refine RenT.val (by first | rfl | with_reducible assumption | (simp only [rn3, rn2, rn1, kσ]; done)) (by first | rfl | assumption | (simp [ok3, ok2, ok1]; done)) ?_)) ⟨⟨_, rfl, rfl, rfl, cells_keep (hk7 _ (Nat.le_of_ble_eq_true rfl)) (Nat.le_of_ble_eq_true rfl)⟩, kl rfl (flatN_scal _), kl rfl (flatN_scal _), kl rfl (flatN_scal _), kl rfl (flatN_scal _), kl rfl (flatN_scal _), kl rfl (flatN_scal _), kl rfl rfl, kl rfl (flatN_scal _), ki rfl, trivial⟩) | (rcases (show k = 1 ∨ k = 2 ∨ k = 3 ∨ k = 4 ∨ k = 5 from (by omega)) with rfl | rfl | rfl | rfl | rfl; (refine ⟨S.length - (1 + 1), [.slice (some ⟨0, 0, none⟩) S.length INF, jk, jk, .pointer (some ⟨7, 0, none⟩), jk, .slice (some ⟨14, 0, none⟩) (1 + 1) INF, .int .i64 (((1 + 1 : Nat) : Int)), jk, jk, jk, jk, jk, jk, jk, jk, jk, jk, jk, jk, jk, jk, jk, jk, jk, jk, jk, jk, jk, jk, jk, jk, jk, jk, jk, jk, jk, jk, jk, jk, jk, jk, jk, jk, jk, jk, jk, jk, jk, jk, jk, jk, jk, jk, jk, jk, jk, jk, jk, jk, jk, jk, jk, jk, jk, jk, jk, jk, jk, jk, jk, jk, jk, jk, jk, jk, jk, jk, jk, jk, jk, jk, jk, jk, jk, jk, jk, jk, jk, jk, jk, jk, jk, jk, jk, jk, jk, jk, jk, jk, jk, jk, jk, jk, jk, jk, jk, jk, jk, jk, jk, jk, jk, jk, jk, jk, jk, jk, jk, jk, jk, jk, jk, jk, jk, jk, jk, jk, jk, jk, jk, jk, jk, jk, jk, jk, jk, jk], [some ⟨flatS S, false, 0⟩, some ⟨flatN (a 0), false, 0⟩, some ⟨flatN (a 1), false, 0⟩, some ⟨flatN (a 2), false, 0⟩, some ⟨flatN (a 3), false, 0⟩, some ⟨flatN (a 4), false, 0⟩, some ⟨flatN (a 5), false, 0⟩, some ⟨[.int .i64 u, .int .i64 d], true, 0⟩, CB a (1 + 1) 0, CB a (1 + 1) 1, CB a (1 + 1) 2, CB a (1 + 1) 3, CB a (1 + 1) 4, CB a (1 + 1) 5, some ⟨flatS (owL S a (1 + 1)), true, 3⟩], by omega, ?_, 1 + 1, rfl, by omega, hj1, .inr ⟨by omega, rfl, rfl⟩⟩; exact Wk.keep 8 [8, 17, 41, 42, 43, 44, 19] (by rw [hE]; exact Nat.le_of_ble_eq_true rfl) rfl rfl (by repeat (first | exact RenT.nil | refine RenT.jk ?_ | refine RenT.val (by first | rfl | with_reducible assumption | (simp only [rn3, rn2, rn1, kσ]; done)) (by first | rfl | assumption | (simp [ok3, ok2, ok1]; done)) ?_)) ⟨⟨_, rfl, rfl, rfl, cells_keep (hk7 _ (Nat.le_of_ble_eq_true rfl)) (Nat.le_of_ble_eq_true rfl)⟩, kl rfl (flatN_scal _), kl rfl (flatN_scal _), kl rfl (flatN_scal _), kl rfl (flatN_scal _), kl rfl (flatN_scal _), kl rfl (flatN_scal _), kl rfl rfl, kl rfl (flatN_scal _), kl rfl (flatN_scal _), ki rfl, trivial⟩) ; (refine ⟨S.length - (2 + 1), [.slice (some ⟨0, 0, none⟩) S.length INF, jk, jk, .pointer (some ⟨7, 0, none⟩), jk, .slice (some ⟨14, 0, none⟩) (2 + 1) INF, .int .i64 (((2 + 1 : Nat) : Int)), jk, jk, jk, jk, jk, jk, jk, jk, jk, jk, jk, jk, jk, jk, jk, jk, jk, jk, jk, jk, jk, jk, jk, jk, jk, jk, jk, jk, jk, jk, jk, jk, jk, jk, jk, jk, jk, jk, jk, jk, jk, jk, jk, jk, jk, jk, jk, jk, jk, jk, jk, jk, jk, jk, jk, jk, jk, jk, jk, jk, jk, jk, jk, jk, jk, jk, jk, jk, jk, jk, jk, jk, jk, jk, jk, jk, jk, jk, jk, jk, jk, jk, jk, jk, jk, jk, jk, jk, jk, jk, jk, jk, jk, jk, jk, jk, jk, jk, jk, jk, jk, jk, jk, jk, jk, jk, jk, jk, jk, jk, jk, jk, jk, jk, jk, jk, jk, jk, jk, jk, jk, jk, jk, jk, jk, jk, jk, jk, jk, jk], [some ⟨flatS S, false, 0⟩, some ⟨flatN (a 0), false, 0⟩, some ⟨flatN (a 1), false, 0⟩, some ⟨flatN (a 2), false, 0⟩, some ⟨flatN (a 3), false, 0⟩, some ⟨flatN (a 4), false, 0⟩, some ⟨flatN (a 5), false, 0⟩, some ⟨[.int .i64 u, .int .i64 d], true, 0⟩, CB a (2 + 1) 0, CB a (2 + 1) 1, CB a (2 + 1) 2, CB a (2 + 1) 3, CB a (2 + 1) 4, CB a (2 + 1) 5, some ⟨flatS (owL S a (2 + 1)), true, 3⟩], by omega, ?_, 2 + 1, rfl, by omega, hj1, .inr ⟨by omega, rfl, rfl⟩⟩; exact Wk.keep 8 [8, 9, 17, 41, 42, 43, 19] (by rw [hE]; exact Nat.le_of_ble_eq_true rfl) rfl rfl (by repeat (first | exact RenT.nil | refine RenT.jk ?_ | refine RenT.val (by first | rfl | with_reducible assumption | (simp only [rn3, rn2, rn1, kσ]; done)) (by first | rfl | assumption | (simp [ok3, ok2, ok1]; done)) ?_)) ⟨⟨_, rfl, rfl, rfl, cells_keep (hk7 _ (Nat.le_of_ble_eq_true rfl)) (Nat.le_of_ble_eq_true rfl)⟩, kl rfl (flatN_scal _), kl rfl (flatN_scal _), kl rfl (flatN_scal _), kl rfl (flatN_scal _), kl rfl (flatN_scal _), kl rfl (flatN_scal _), kl rfl rfl, kl rfl (flatN_scal _), kl rfl (flatN_scal _), kl rfl (flatN_scal _), ki rfl, trivial⟩) ; (refine ⟨S.length - (3 + 1), [.slice (some ⟨0, 0, none⟩) S.length INF, jk, jk, .pointer (some ⟨7, 0, none⟩), jk, .slice (some ⟨14, 0, none⟩) (3 + 1) INF, .int .i64 (((3 + 1 : Nat) : Int)), jk, jk, jk, jk, jk, jk, jk, jk, jk, jk, jk, jk, jk, jk, jk, jk, jk, jk, jk, jk, jk, jk, jk, jk, jk, jk, jk, jk, jk, jk, jk, jk, jk, jk, jk, jk, jk, jk, jk, jk, jk, jk, jk, jk, jk, jk, jk, jk, jk, jk, jk, jk, jk, jk, jk, jk, jk, jk, jk, jk, jk, jk, jk, jk, jk, jk, jk, jk, jk, jk, jk, jk, jk, jk, jk, jk, jk, jk, jk, jk, jk, jk, jk, jk, jk, jk, jk, jk, jk, jk, jk, jk, jk, jk, jk, jk, jk, jk, jk, jk, jk, jk, jk, jk, jk, jk, jk, jk, jk, jk, jk, jk, jk, jk, jk, jk, jk, jk, jk, jk, jk, jk, jk, jk, jk, jk, jk, jk, jk, jk], [some ⟨flatS S, false, 0⟩, some ⟨flatN (a 0), false, 0⟩, some ⟨flatN (a 1), false, 0⟩, some ⟨flatN (a 2), false, 0⟩, some ⟨flatN (a 3), false, 0⟩, some ⟨flatN (a 4), false, 0⟩, some ⟨flatN (a 5), false, 0⟩, some ⟨[.int .i64 u, .int .i64 d], true, 0⟩, CB a (3 + 1) 0, CB a (3 + 1) 1, CB a (3 + 1) 2, CB a (3 + 1) 3, CB a (3 + 1) 4, CB a (3 + 1) 5, some ⟨flatS (owL S a (3 + 1)), true, 3⟩], by omega, ?_, 3 + 1, rfl, by omega, hj1, .inr ⟨by omega, rfl, rfl⟩⟩; exact Wk.keep 8 [8, 9, 10, 17, 41, 42, 19] (by rw [hE]; exact Nat.le_of_ble_eq_true rfl) rfl rfl (by repeat (first | exact RenT.nil | refine RenT.jk ?_ | refine RenT.val (by first | rfl | with_reducible assumption | (simp only [rn3, rn2, rn1, kσ]; done)) (by first | rfl | assumption | (simp [ok3, ok2, ok1]; done)) ?_)) ⟨⟨_, rfl, rfl, rfl, cells_keep (hk7 _ (Nat.le_of_ble_eq_true rfl)) (Nat.le_of_ble_eq_true rfl)⟩, kl rfl (flatN_scal _), kl rfl (flatN_scal _), kl rfl (flatN_scal _), kl rfl (flatN_scal _), kl rfl (flatN_scal _), kl rfl (flatN_scal _), kl rfl rfl, kl rfl (flatN_scal _), kl rfl (flatN_scal _), kl rfl (flatN_scal _), kl rfl (flatN_scal _), ki rfl, trivial⟩) ; (refine ⟨S.length - (4 + 1), [.slice (some ⟨0, 0, none⟩) S.length INF, jk, jk, .pointer (some ⟨7, 0, none⟩), jk, .slice (some ⟨14, 0, none⟩) (4 + 1) INF, .int .i64 (((4 + 1 : Nat) : Int)), jk, jk, jk, jk, jk, jk, jk, jk, jk, jk, jk, jk, jk, jk, jk, jk, jk, jk, jk, jk, jk, jk, jk, jk, jk, jk, jk, jk, jk, jk, jk, jk, jk, jk, jk, jk, jk, jk, jk, jk, jk, jk, jk, jk, jk, jk, jk, jk, jk, jk, jk, jk, jk, jk, jk, jk, jk, jk, jk, jk, jk, jk, jk, jk, jk, jk, jk, jk, jk, jk, jk, jk, jk, jk, jk, jk, jk, jk, jk, jk, jk, jk, jk, jk, jk, jk, jk, jk, jk, jk, jk, jk, jk, jk, jk, jk, jk, jk, jk, jk, jk, jk, jk, jk, jk, jk, jk, jk, jk, jk, jk, jk, jk, jk, jk, jk, jk, jk, jk, jk, jk, jk, jk, jk, jk, jk, jk, jk, jk, jk], [some ⟨flatS S, false, 0⟩, some ⟨flatN (a 0), false, 0⟩, some ⟨flatN (a 1), false, 0⟩, some ⟨flatN (a 2), false, 0⟩, some ⟨flatN (a 3), false, 0⟩, some ⟨flatN (a 4), false, 0⟩, some ⟨flatN (a 5), false, 0⟩, some ⟨[.int .i64 u, .int .i64 d], true, 0⟩, CB a (4 + 1) 0, CB a (4 + 1) 1, CB a (4 + 1) 2, CB a (4 + 1) 3, CB a (4 + 1) 4, CB a (4 + 1) 5, some ⟨flatS (owL S a (4 + 1)), true, 3⟩], by omega, ?_, 4 + 1, rfl, by omega, hj1, .inr ⟨by omega, rfl, rfl⟩⟩; exact Wk.keep 8 [8, 9, 10, 11, 17, 41, 19] (by rw [hE]; exact Nat.le_of_ble_eq_true rfl) rfl rfl (by repeat (first | exact RenT.nil | refine RenT.jk ?_ | refine RenT.val (by first | rfl | with_reducible assumption | (simp only [rn3, rn2, rn1, kσ]; done)) (by first | rfl | assumption | (simp [ok3, ok2, ok1]; done)) ?_)) ⟨⟨_, rfl, rfl, rfl, cells_keep (hk7 _ (Nat.le_of_ble_eq_true rfl)) (Nat.le_of_ble_eq_true rfl)⟩, kl rfl (flatN_scal _), kl rfl (flatN_scal _), kl rfl (flatN_scal _), kl rfl (flatN_scal _), kl rfl (flatN_scal _), kl rfl (flatN_scal _), kl rfl rfl, kl rfl (flatN_scal _), kl rfl (flatN_scal _), kl rfl (flatN_scal _), kl rfl (flatN_scal _), kl rfl (flatN_scal _), ki rfl, trivial⟩) ; (refine ⟨S.length - (5 + 1), [.slice (some ⟨0, 0, none⟩) S.length INF, jk, jk, .pointer (some ⟨7, 0, none⟩), jk, .slice (some ⟨14, 0, none⟩) (5 + 1) INF, .int .i64 (((5 + 1 : Nat) : Int)), jk, jk, jk, jk, jk, jk, jk, jk, jk, jk, jk, jk, jk, jk, jk, jk, jk, jk, jk, jk, jk, jk, jk, jk, jk, jk, jk, jk, jk, jk, jk, jk, jk, jk, jk, jk, jk, jk, jk, jk, jk, jk, jk, jk, jk, jk, jk, jk, jk, jk, jk, jk, jk, jk, jk, jk, jk, jk, jk, jk, jk, jk, jk, jk, jk, jk, jk, jk, jk, jk, jk, jk, jk, jk, jk, jk, jk, jk, jk, jk, jk, jk, jk, jk, jk, jk, jk, jk, jk, jk, jk, jk, jk, jk, jk, jk, jk, jk, jk, jk, jk, jk, jk, jk, jk, jk, jk, jk, jk, jk, jk, jk, jk, jk, jk, jk, jk, jk, jk, jk, jk, jk, jk, jk, jk, jk, jk, jk, jk, jk], [some ⟨flatS S, false, 0⟩, some ⟨flatN (a 0), false, 0⟩, some ⟨flatN (a 1), false, 0⟩, some ⟨flatN (a 2), false, 0⟩, some ⟨flatN (a 3), false, 0⟩, some ⟨flatN (a 4), false, 0⟩, some ⟨flatN (a 5), false, 0⟩, some ⟨[.int .i64 u, .int .i64 d], true, 0⟩, CB a (5 + 1) 0, CB a (5 + 1) 1, CB a (5 + 1) 2, CB a (5 + 1) 3, CB a (5 + 1) 4, CB a (5 + 1) 5, some ⟨flatS (owL S a (5 + 1)), true, 3⟩], by omega, ?_, 5 + 1, rfl, by omega, hj1, .inr ⟨by omega, rfl, rfl⟩⟩; exact Wk.keep 8 [8, 9, 10, 11, 12, 17, 19] (by rw [hE]; exact Nat.le_of_ble_eq_true rfl) rfl rfl (by repeat (first | exact RenT.nil | refine RenT.jk ?_ | refine RenT.val (by first | rfl | with_reducible assumption | (simp only [rn3, rn2, rn1, kσ]; done)) (by first | rfl | assumption | (simp [ok3, ok2, ok1]; done)) ?_)) ⟨⟨_, rfl, rfl, rfl, cells_keep (hk7 _ (Nat.le_of_ble_eq_true rfl)) (Nat.le_of_ble_eq_true rfl)⟩, kl rfl (flatN_scal _), kl rfl (flatN_scal _), kl rfl (flatN_scal _), kl rfl (flatN_scal _), kl rfl (flatN_scal _), kl rfl (flatN_scal _), kl rfl rfl, kl rfl (flatN_scal _), kl rfl (flatN_scal _), kl rfl (flatN_scal _), kl rfl (flatN_scal _), kl rfl (flatN_scal _), kl rfl (flatN_scal _), ki rfl, trivial⟩) ))) | ((with_reducible refine FinJ.on ?_); first | exact FinJ.ret (.tmp wl .nil) (jle_flat rfl) | exact FinJ.end (.tmp wl .nil) (jle_flat rfl)))
end Go.Proofs.YtmohcmghbfhdlaaGreat
end
end
/- MeshDisperses: one to six scatterers. -/
section
set_option linter.unusedSimpArgs false
set_option linter.unusedVariables false
section
namespace Go.Me
open Go.Ab
def owI (S : List Sc) (a : Nat → List Int) (n : Nat) : List Sc := (List.range n).map fun j => ((sc S j).1, cpV (1 + j) (a j))
def yqN (n i : Nat) : Nat := if i < n then 1 else 0
theorem owI_len (S : List Sc) (a : Nat → List Int) (n : Nat) : (owI S a n).length = n := by unfold owI; rw [List.length_map, List.length_range]
theorem owI_sc {S : List Sc} {a : Nat → List Int} {n k : Nat} (h : k < n) : sc (owI S a n) k = ((sc S k).1, cpV (1 + k) (a k)) := by
 unfold sc owI
 rw [List.getD_eq_getElem?_getD, List.getElem?_map, List.getElem?_range h]
 rfl
theorem owI_ps (S : List Sc) (a : Nat → List Int) : psS (owI S a S.length) = psS S := by
 refine List.ext_getElem? fun k => ?_
 unfold psS owI
 rw [List.getElem?_map, List.getElem?_map, List.getElem?_map]
 by_cases h : k < S.length
 ·rw [List.getElem?_range h, List.getElem?_eq_getElem h]
  show some (S.getD k (⟨0, 0⟩, .slice none 0 0)).1 = some (S[k]).1
  rw [List.getD_eq_getElem?_getD, List.getElem?_eq_getElem h]
  rfl
 ·rw [List.getElem?_eq_none (by rw [List.length_range]; omega), List.getElem?_eq_none (by omega)]
  rfl
theorem chN_ps {S S' : List Sc} (h : psS S' = psS S) (a : Nat → List Int) : ∀ k, chN S' a k = chN S a k
 | 0 => rfl
 | k + 1 => by
  unfold chN
  rw [chN_ps h a k]
  unfold scE
  rw [h]
theorem chX_ps {S S' : List Sc} (h : psS S' = psS S) (a : Nat → List Int) (u d : Int) : chX S' a u d = chX S a u d ∧ chR S' a u d = chR S a u d := by
 have hl : S'.length = S.length := by rw [← psS_len S', h, psS_len]
 have h1 : chX S' a u d = chX S a u d := by
  unfold chX
  rw [chN_ps h, hl]
 refine ⟨h1, ?_⟩
 unfold chR
 rw [h1, hl]
theorem chT_len (a : Nat → List Int) (u d : Int) : ∀ k, (chT a u d k).length ≤ k
 | 0 => Nat.le_refl _
 | k + 1 => by
  have := chT_len a u d k
  unfold chT
  split
  ·rw [List.length_append]
   exact Nat.succ_le_succ this
  ·omega
theorem chR_len (S : List Sc) (a : Nat → List Int) (u d : Int) : (chR S a u d).length ≤ S.length := by
 unfold chR
 split
 ·exact chT_len a u d _
 ·exact Nat.zero_le _
end Go.Me
namespace Go.Proofs.YtmohcmghbfhdlaaGreat
open Go Go.RowKit Go.Ab Go.Me
set_option maxRecDepth 100000
set_option maxHeartbeats 4000000
attribute [local irreducible] OQ OW AL AW AF SW
theorem own_0 (S : List Sc) (a : Nat → List Int) (u d : Int) (h1 : 0 < S.length) (h6 : S.length ≤ 6) (hu : -9223372036854775808 ≤ u ∧ u ≤ 9223372036854775807) (hd : -9223372036854775808 ≤ d ∧ d ≤ 9223372036854775807) (ha : ∀ k, k < S.length → (a k).length ≤ 1000000) :
  ACalls Tryz.prog 51 [.slice (some ⟨0, 0, none⟩) S.length INF, .agg #[.int .i64 u, .int .i64 d]] (memZ (owI S a S.length) a 3 (yqN S.length)) (.tuple #[oV 7 (chR S a u d), .int .i64 (chX S a u d)]) (memZ (owI S a S.length) a 3 (yqN S.length) ++ [oB (chR S a u d)]) := by
 have hl := owI_len S a S.length
 have hx := chX_ps (owI_ps S a) a u d
 have hF := ch_F (owI S a S.length) a u d
 rw [hx.1, hx.2] at hF
 have hkp : ∀ v ∈ flatS (owI S a S.length), kp 7 v := flatS_kp fun k hk => by
  rw [hl] at hk
  rw [owI_sc hk]
  exact kp_slice (by omega)
 have := Chosen_0 (owI S a S.length) a 3 (yqN S.length) u d INF (by rw [hl]; exact h1) (by rw [hl]; exact h6) hu hd (fun k hk => ha k (by rw [hl] at hk; exact hk)) (fun k => some ⟨1 + k, 0, none⟩) (fun k => cpC (a k).length) (fun k hk => by rw [hl] at hk; rw [owI_sc hk]; rfl) hkp (fun k hk r => by
  rw [hl] at hk
  have hak := ha k hk
  match k, (show k < 6 by omega), hak with
  | 0, _, hak => exact Dispersion_q (n := (a 0).length) (a 0) rfl rfl rfl hak rfl
  | 1, _, hak => exact Dispersion_q (n := (a 1).length) (a 1) rfl rfl rfl hak rfl
  | 2, _, hak => exact Dispersion_q (n := (a 2).length) (a 2) rfl rfl rfl hak rfl
  | 3, _, hak => exact Dispersion_q (n := (a 3).length) (a 3) rfl rfl rfl hak rfl
  | 4, _, hak => exact Dispersion_q (n := (a 4).length) (a 4) rfl rfl rfl hak rfl
  | 5, _, hak => exact Dispersion_q (n := (a 5).length) (a 5) rfl rfl rfl hak rfl) (chX S a u d) (chR S a u d) hF
 rw [hl] at this
 exact this
theorem own_s (S : List Sc) (a : Nat → List Int) (u d : Int) (R : List Int) (X : Int) (n : Nat) (h1 : 0 < n) (h6 : n ≤ 6)
  (h : ACalls Tryz.prog 51 [.slice (some ⟨0, 0, none⟩) n INF, .agg #[.int .i64 u, .int .i64 d]] (memZ (owI S a n) a 3 (yqN n)) (.tuple #[oV 7 R, .int .i64 X]) (memZ (owI S a n) a 3 (yqN n) ++ [oB R])) :
  ACalls Tryz.prog 51 [.slice (some ⟨14, 0, none⟩) n INF, .agg #[.int .i64 u, .int .i64 d]] [some ⟨flatS S, false, 0⟩, some ⟨flatN (a 0), false, 0⟩, some ⟨flatN (a 1), false, 0⟩, some ⟨flatN (a 2), false, 0⟩, some ⟨flatN (a 3), false, 0⟩, some ⟨flatN (a 4), false, 0⟩, some ⟨flatN (a 5), false, 0⟩, some ⟨[.int .i64 u, .int .i64 d], true, 0⟩, CB a n 0, CB a n 1, CB a n 2, CB a n 3, CB a n 4, CB a n 5, some ⟨flatS (owL S a n), true, 3⟩] (.tuple #[oV 15 R, .int .i64 X]) [some ⟨flatS S, false, 0⟩, some ⟨flatN (a 0), false, 0⟩, some ⟨flatN (a 1), false, 0⟩, some ⟨flatN (a 2), false, 0⟩, some ⟨flatN (a 3), false, 0⟩, some ⟨flatN (a 4), false, 0⟩, some ⟨flatN (a 5), false, 0⟩, some ⟨[.int .i64 u, .int .i64 d], true, 0⟩, CB a n 0, CB a n 1, CB a n 2, CB a n 3, CB a n 4, CB a n 5, some ⟨flatS (owL S a n), true, 3⟩, oB R] := by
 have hc : n = 1 ∨ n = 2 ∨ n = 3 ∨ n = 4 ∨ n = 5 ∨ n = 6 := by omega
 by_cases hR : R = []
 ·subst hR
  rw [oV_n, oB_n] at h
  rw [oV_n, oB_n]
  rcases hc with rfl | rfl | rfl | rfl | rfl | rfl
  ·exact ACalls.viaS [14, 8, 2, 3, 4, 5, 6] [] [none] h ⟨⟨_, rfl, rfl, (fun h => nomatch h), .inr ⟨rfl, rfl⟩⟩, ⟨_, rfl, rfl, (fun h => nomatch h), .inl ⟨rfl, flatN_scal _⟩⟩, ⟨_, rfl, rfl, (fun h => nomatch h), .inl ⟨rfl, flatN_scal _⟩⟩, ⟨_, rfl, rfl, (fun h => nomatch h), .inl ⟨rfl, flatN_scal _⟩⟩, ⟨_, rfl, rfl, (fun h => nomatch h), .inl ⟨rfl, flatN_scal _⟩⟩, ⟨_, rfl, rfl, (fun h => nomatch h), .inl ⟨rfl, flatN_scal _⟩⟩, ⟨_, rfl, rfl, (fun h => nomatch h), .inl ⟨rfl, flatN_scal _⟩⟩, trivial⟩ (by decide) ⟨⟨_, rfl, rfl⟩, ⟨_, rfl, rfl⟩, ⟨_, rfl, rfl⟩, ⟨_, rfl, rfl⟩, ⟨_, rfl, rfl⟩, ⟨_, rfl, rfl⟩, ⟨_, rfl, rfl⟩, trivial, trivial⟩ rfl rfl rfl rfl
  ·exact ACalls.viaS [14, 8, 9, 3, 4, 5, 6] [] [none] h ⟨⟨_, rfl, rfl, (fun h => nomatch h), .inr ⟨rfl, rfl⟩⟩, ⟨_, rfl, rfl, (fun h => nomatch h), .inl ⟨rfl, flatN_scal _⟩⟩, ⟨_, rfl, rfl, (fun h => nomatch h), .inl ⟨rfl, flatN_scal _⟩⟩, ⟨_, rfl, rfl, (fun h => nomatch h), .inl ⟨rfl, flatN_scal _⟩⟩, ⟨_, rfl, rfl, (fun h => nomatch h), .inl ⟨rfl, flatN_scal _⟩⟩, ⟨_, rfl, rfl, (fun h => nomatch h), .inl ⟨rfl, flatN_scal _⟩⟩, ⟨_, rfl, rfl, (fun h => nomatch h), .inl ⟨rfl, flatN_scal _⟩⟩, trivial⟩ (by decide) ⟨⟨_, rfl, rfl⟩, ⟨_, rfl, rfl⟩, ⟨_, rfl, rfl⟩, ⟨_, rfl, rfl⟩, ⟨_, rfl, rfl⟩, ⟨_, rfl, rfl⟩, ⟨_, rfl, rfl⟩, trivial, trivial⟩ rfl rfl rfl rfl
  ·exact ACalls.viaS [14, 8, 9, 10, 4, 5, 6] [] [none] h ⟨⟨_, rfl, rfl, (fun h => nomatch h), .inr ⟨rfl, rfl⟩⟩, ⟨_, rfl, rfl, (fun h => nomatch h), .inl ⟨rfl, flatN_scal _⟩⟩, ⟨_, rfl, rfl, (fun h => nomatch h), .inl ⟨rfl, flatN_scal _⟩⟩, ⟨_, rfl, rfl, (fun h => nomatch h), .inl ⟨rfl, flatN_scal _⟩⟩, ⟨_, rfl, rfl, (fun h => nomatch h), .inl ⟨rfl, flatN_scal _⟩⟩, ⟨_, rfl, rfl, (fun h => nomatch h), .inl ⟨rfl, flatN_scal _⟩⟩, ⟨_, rfl, rfl, (fun h => nomatch h), .inl ⟨rfl, flatN_scal _⟩⟩, trivial⟩ (by decide) ⟨⟨_, rfl, rfl⟩, ⟨_, rfl, rfl⟩, ⟨_, rfl, rfl⟩, ⟨_, rfl, rfl⟩, ⟨_, rfl, rfl⟩, ⟨_, rfl, rfl⟩, ⟨_, rfl, rfl⟩, trivial, trivial⟩ rfl rfl rfl rfl
  ·exact ACalls.viaS [14, 8, 9, 10, 11, 5, 6] [] [none] h ⟨⟨_, rfl, rfl, (fun h => nomatch h), .inr ⟨rfl, rfl⟩⟩, ⟨_, rfl, rfl, (fun h => nomatch h), .inl ⟨rfl, flatN_scal _⟩⟩, ⟨_, rfl, rfl, (fun h => nomatch h), .inl ⟨rfl, flatN_scal _⟩⟩, ⟨_, rfl, rfl, (fun h => nomatch h), .inl ⟨rfl, flatN_scal _⟩⟩, ⟨_, rfl, rfl, (fun h => nomatch h), .inl ⟨rfl, flatN_scal _⟩⟩, ⟨_, rfl, rfl, (fun h => nomatch h), .inl ⟨rfl, flatN_scal _⟩⟩, ⟨_, rfl, rfl, (fun h => nomatch h), .inl ⟨rfl, flatN_scal _⟩⟩, trivial⟩ (by decide) ⟨⟨_, rfl, rfl⟩, ⟨_, rfl, rfl⟩, ⟨_, rfl, rfl⟩, ⟨_, rfl, rfl⟩, ⟨_, rfl, rfl⟩, ⟨_, rfl, rfl⟩, ⟨_, rfl, rfl⟩, trivial, trivial⟩ rfl rfl rfl rfl
  ·exact ACalls.viaS [14, 8, 9, 10, 11, 12, 6] [] [none] h ⟨⟨_, rfl, rfl, (fun h => nomatch h), .inr ⟨rfl, rfl⟩⟩, ⟨_, rfl, rfl, (fun h => nomatch h), .inl ⟨rfl, flatN_scal _⟩⟩, ⟨_, rfl, rfl, (fun h => nomatch h), .inl ⟨rfl, flatN_scal _⟩⟩, ⟨_, rfl, rfl, (fun h => nomatch h), .inl ⟨rfl, flatN_scal _⟩⟩, ⟨_, rfl, rfl, (fun h => nomatch h), .inl ⟨rfl, flatN_scal _⟩⟩, ⟨_, rfl, rfl, (fun h => nomatch h), .inl ⟨rfl, flatN_scal _⟩⟩, ⟨_, rfl, rfl, (fun h => nomatch h), .inl ⟨rfl, flatN_scal _⟩⟩, trivial⟩ (by decide) ⟨⟨_, rfl, rfl⟩, ⟨_, rfl, rfl⟩, ⟨_, rfl, rfl⟩, ⟨_, rfl, rfl⟩, ⟨_, rfl, rfl⟩, ⟨_, rfl, rfl⟩, ⟨_, rfl, rfl⟩, trivial, trivial⟩ rfl rfl rfl rfl
  ·exact ACalls.viaS [14, 8, 9, 10, 11, 12, 13] [] [none] h ⟨⟨_, rfl, rfl, (fun h => nomatch h), .inr ⟨rfl, rfl⟩⟩, ⟨_, rfl, rfl, (fun h => nomatch h), .inl ⟨rfl, flatN_scal _⟩⟩, ⟨_, rfl, rfl, (fun h => nomatch h), .inl ⟨rfl, flatN_scal _⟩⟩, ⟨_, rfl, rfl, (fun h => nomatch h), .inl ⟨rfl, flatN_scal _⟩⟩, ⟨_, rfl, rfl, (fun h => nomatch h), .inl ⟨rfl, flatN_scal _⟩⟩, ⟨_, rfl, rfl, (fun h => nomatch h), .inl ⟨rfl, flatN_scal _⟩⟩, ⟨_, rfl, rfl, (fun h => nomatch h), .inl ⟨rfl, flatN_scal _⟩⟩, trivial⟩ (by decide) ⟨⟨_, rfl, rfl⟩, ⟨_, rfl, rfl⟩, ⟨_, rfl, rfl⟩, ⟨_, rfl, rfl⟩, ⟨_, rfl, rfl⟩, ⟨_, rfl, rfl⟩, ⟨_, rfl, rfl⟩, trivial, trivial⟩ rfl rfl rfl rfl
 ·rw [oV_s hR, oB_s hR] at h
  rw [oV_s hR, oB_s hR]
  rcases hc with rfl | rfl | rfl | rfl | rfl | rfl
  ·exact ACalls.viaS [14, 8, 2, 3, 4, 5, 6] [] [some ⟨flatN R, true, 1⟩] h ⟨⟨_, rfl, rfl, (fun h => nomatch h), .inr ⟨rfl, rfl⟩⟩, ⟨_, rfl, rfl, (fun h => nomatch h), .inl ⟨rfl, flatN_scal _⟩⟩, ⟨_, rfl, rfl, (fun h => nomatch h), .inl ⟨rfl, flatN_scal _⟩⟩, ⟨_, rfl, rfl, (fun h => nomatch h), .inl ⟨rfl, flatN_scal _⟩⟩, ⟨_, rfl, rfl, (fun h => nomatch h), .inl ⟨rfl, flatN_scal _⟩⟩, ⟨_, rfl, rfl, (fun h => nomatch h), .inl ⟨rfl, flatN_scal _⟩⟩, ⟨_, rfl, rfl, (fun h => nomatch h), .inl ⟨rfl, flatN_scal _⟩⟩, trivial⟩ (by decide) ⟨⟨_, rfl, rfl⟩, ⟨_, rfl, rfl⟩, ⟨_, rfl, rfl⟩, ⟨_, rfl, rfl⟩, ⟨_, rfl, rfl⟩, ⟨_, rfl, rfl⟩, ⟨_, rfl, rfl⟩, ⟨rfl, rfl, rfl, .inl ⟨rfl, flatN_scal _⟩⟩, trivial⟩ rfl rfl rfl rfl
  ·exact ACalls.viaS [14, 8, 9, 3, 4, 5, 6] [] [some ⟨flatN R, true, 1⟩] h ⟨⟨_, rfl, rfl, (fun h => nomatch h), .inr ⟨rfl, rfl⟩⟩, ⟨_, rfl, rfl, (fun h => nomatch h), .inl ⟨rfl, flatN_scal _⟩⟩, ⟨_, rfl, rfl, (fun h => nomatch h), .inl ⟨rfl, flatN_scal _⟩⟩, ⟨_, rfl, rfl, (fun h => nomatch h), .inl ⟨rfl, flatN_scal _⟩⟩, ⟨_, rfl, rfl, (fun h => nomatch h), .inl ⟨rfl, flatN_scal _⟩⟩, ⟨_, rfl, rfl, (fun h => nomatch h), .inl ⟨rfl, flatN_scal _⟩⟩, ⟨_, rfl, rfl, (fun h => nomatch h), .inl ⟨rfl, flatN_scal _⟩⟩, trivial⟩ (by decide) ⟨⟨_, rfl, rfl⟩, ⟨_, rfl, rfl⟩, ⟨_, rfl, rfl⟩, ⟨_, rfl, rfl⟩, ⟨_, rfl, rfl⟩, ⟨_, rfl, rfl⟩, ⟨_, rfl, rfl⟩, ⟨rfl, rfl, rfl, .inl ⟨rfl, flatN_scal _⟩⟩, trivial⟩ rfl rfl rfl rfl
  ·exact ACalls.viaS [14, 8, 9, 10, 4, 5, 6] [] [some ⟨flatN R, true, 1⟩] h ⟨⟨_, rfl, rfl, (fun h => nomatch h), .inr ⟨rfl, rfl⟩⟩, ⟨_, rfl, rfl, (fun h => nomatch h), .inl ⟨rfl, flatN_scal _⟩⟩, ⟨_, rfl, rfl, (fun h => nomatch h), .inl ⟨rfl, flatN_scal _⟩⟩, ⟨_, rfl, rfl, (fun h => nomatch h), .inl ⟨rfl, flatN_scal _⟩⟩, ⟨_, rfl, rfl, (fun h => nomatch h), .inl ⟨rfl, flatN_scal _⟩⟩, ⟨_, rfl, rfl, (fun h => nomatch h), .inl ⟨rfl, flatN_scal _⟩⟩, ⟨_, rfl, rfl, (fun h => nomatch h), .inl ⟨rfl, flatN_scal _⟩⟩, trivial⟩ (by decide) ⟨⟨_, rfl, rfl⟩, ⟨_, rfl, rfl⟩, ⟨_, rfl, rfl⟩, ⟨_, rfl, rfl⟩, ⟨_, rfl, rfl⟩, ⟨_, rfl, rfl⟩, ⟨_, rfl, rfl⟩, ⟨rfl, rfl, rfl, .inl ⟨rfl, flatN_scal _⟩⟩, trivial⟩ rfl rfl rfl rfl
  ·exact ACalls.viaS [14, 8, 9, 10, 11, 5, 6] [] [some ⟨flatN R, true, 1⟩] h ⟨⟨_, rfl, rfl, (fun h => nomatch h), .inr ⟨rfl, rfl⟩⟩, ⟨_, rfl, rfl, (fun h => nomatch h), .inl ⟨rfl, flatN_scal _⟩⟩, ⟨_, rfl, rfl, (fun h => nomatch h), .inl ⟨rfl, flatN_scal _⟩⟩, ⟨_, rfl, rfl, (fun h => nomatch h), .inl ⟨rfl, flatN_scal _⟩⟩, ⟨_, rfl, rfl, (fun h => nomatch h), .inl ⟨rfl, flatN_scal _⟩⟩, ⟨_, rfl, rfl, (fun h => nomatch h), .inl ⟨rfl, flatN_scal _⟩⟩, ⟨_, rfl, rfl, (fun h => nomatch h), .inl ⟨rfl, flatN_scal _⟩⟩, trivial⟩ (by decide) ⟨⟨_, rfl, rfl⟩, ⟨_, rfl, rfl⟩, ⟨_, rfl, rfl⟩, ⟨_, rfl, rfl⟩, ⟨_, rfl, rfl⟩, ⟨_, rfl, rfl⟩, ⟨_, rfl, rfl⟩, ⟨rfl, rfl, rfl, .inl ⟨rfl, flatN_scal _⟩⟩, trivial⟩ rfl rfl rfl rfl
  ·exact ACalls.viaS [14, 8, 9, 10, 11, 12, 6] [] [some ⟨flatN R, true, 1⟩] h ⟨⟨_, rfl, rfl, (fun h => nomatch h), .inr ⟨rfl, rfl⟩⟩, ⟨_, rfl, rfl, (fun h => nomatch h), .inl ⟨rfl, flatN_scal _⟩⟩, ⟨_, rfl, rfl, (fun h => nomatch h), .inl ⟨rfl, flatN_scal _⟩⟩, ⟨_, rfl, rfl, (fun h => nomatch h), .inl ⟨rfl, flatN_scal _⟩⟩, ⟨_, rfl, rfl, (fun h => nomatch h), .inl ⟨rfl, flatN_scal _⟩⟩, ⟨_, rfl, rfl, (fun h => nomatch h), .inl ⟨rfl, flatN_scal _⟩⟩, ⟨_, rfl, rfl, (fun h => nomatch h), .inl ⟨rfl, flatN_scal _⟩⟩, trivial⟩ (by decide) ⟨⟨_, rfl, rfl⟩, ⟨_, rfl, rfl⟩, ⟨_, rfl, rfl⟩, ⟨_, rfl, rfl⟩, ⟨_, rfl, rfl⟩, ⟨_, rfl, rfl⟩, ⟨_, rfl, rfl⟩, ⟨rfl, rfl, rfl, .inl ⟨rfl, flatN_scal _⟩⟩, trivial⟩ rfl rfl rfl rfl
  ·exact ACalls.viaS [14, 8, 9, 10, 11, 12, 13] [] [some ⟨flatN R, true, 1⟩] h ⟨⟨_, rfl, rfl, (fun h => nomatch h), .inr ⟨rfl, rfl⟩⟩, ⟨_, rfl, rfl, (fun h => nomatch h), .inl ⟨rfl, flatN_scal _⟩⟩, ⟨_, rfl, rfl, (fun h => nomatch h), .inl ⟨rfl, flatN_scal _⟩⟩, ⟨_, rfl, rfl, (fun h => nomatch h), .inl ⟨rfl, flatN_scal _⟩⟩, ⟨_, rfl, rfl, (fun h => nomatch h), .inl ⟨rfl, flatN_scal _⟩⟩, ⟨_, rfl, rfl, (fun h => nomatch h), .inl ⟨rfl, flatN_scal _⟩⟩, ⟨_, rfl, rfl, (fun h => nomatch h), .inl ⟨rfl, flatN_scal _⟩⟩, trivial⟩ (by decide) ⟨⟨_, rfl, rfl⟩, ⟨_, rfl, rfl⟩, ⟨_, rfl, rfl⟩, ⟨_, rfl, rfl⟩, ⟨_, rfl, rfl⟩, ⟨_, rfl, rfl⟩, ⟨_, rfl, rfl⟩, ⟨rfl, rfl, rfl, .inl ⟨rfl, flatN_scal _⟩⟩, trivial⟩ rfl rfl rfl rfl
theorem rown_s (S : List Sc) (a : Nat → List Int) (u d : Int) (R : List Int) (X : Int) (hk7 : ∀ v ∈ flatS S, kp 7 v)
  (h : ACalls Tryz.prog 52 [.slice (some ⟨0, 0, none⟩) S.length INF, .agg #[.int .i64 u, .int .i64 d]] (memS S a) (.tuple #[oV 7 R, .int .i64 X]) (memS S a ++ [oB R])) (r : Mem) :
  ACalls Tryz.prog 52 [.slice (some ⟨0, 0, none⟩) S.length INF, .agg #[.int .i64 u, .int .i64 d]] (some ⟨flatS S, false, 0⟩ :: some ⟨flatN (a 0), false, 0⟩ :: some ⟨flatN (a 1), false, 0⟩ :: some ⟨flatN (a 2), false, 0⟩ :: some ⟨flatN (a 3), false, 0⟩ :: some ⟨flatN (a 4), false, 0⟩ :: some ⟨flatN (a 5), false, 0⟩ :: r) (.tuple #[oV (r.length + 7) R, .int .i64 X]) (some ⟨flatS S, false, 0⟩ :: some ⟨flatN (a 0), false, 0⟩ :: some ⟨flatN (a 1), false, 0⟩ :: some ⟨flatN (a 2), false, 0⟩ :: some ⟨flatN (a 3), false, 0⟩ :: some ⟨flatN (a 4), false, 0⟩ :: some ⟨flatN (a 5), false, 0⟩ :: (r ++ [oB R])) := by
 have hc : flatS S = (flatS S).map (rn1 fun b => [0, 1, 2, 3, 4, 5, 6].getD b 0) ∧ (flatS S).all (ok1 7) = true := by
  refine ⟨?_, List.all_eq_true.2 fun v hv => (hk7 v hv).1⟩
  have : (flatS S).map (rn1 fun b => [0, 1, 2, 3, 4, 5, 6].getD b 0) = (flatS S).map id := List.map_congr_left fun v hv => (hk7 v hv).2 _ fun b hb => by
   match b, hb with
   | 0, _ => rfl
   | 1, _ => rfl
   | 2, _ => rfl
   | 3, _ => rfl
   | 4, _ => rfl
   | 5, _ => rfl
   | 6, _ => rfl
  rw [this, List.map_id]
 by_cases hR : R = []
 ·subst hR
  rw [oV_n, oB_n] at h
  rw [oV_n, oB_n]
  exact ACalls.viaS [0, 1, 2, 3, 4, 5, 6] [] [none] h ⟨⟨_, rfl, rfl, (fun h => nomatch h), .inr hc⟩, ⟨_, rfl, rfl, (fun h => nomatch h), .inl ⟨rfl, flatN_scal _⟩⟩, ⟨_, rfl, rfl, (fun h => nomatch h), .inl ⟨rfl, flatN_scal _⟩⟩, ⟨_, rfl, rfl, (fun h => nomatch h), .inl ⟨rfl, flatN_scal _⟩⟩, ⟨_, rfl, rfl, (fun h => nomatch h), .inl ⟨rfl, flatN_scal _⟩⟩, ⟨_, rfl, rfl, (fun h => nomatch h), .inl ⟨rfl, flatN_scal _⟩⟩, ⟨_, rfl, rfl, (fun h => nomatch h), .inl ⟨rfl, flatN_scal _⟩⟩, trivial⟩ (by decide) ⟨⟨_, rfl, rfl⟩, ⟨_, rfl, rfl⟩, ⟨_, rfl, rfl⟩, ⟨_, rfl, rfl⟩, ⟨_, rfl, rfl⟩, ⟨_, rfl, rfl⟩, ⟨_, rfl, rfl⟩, trivial, trivial⟩ rfl rfl rfl rfl
 ·rw [oV_s hR, oB_s hR] at h
  rw [oV_s hR, oB_s hR]
  exact ACalls.viaS [0, 1, 2, 3, 4, 5, 6] [] [some ⟨flatN R, true, 1⟩] h ⟨⟨_, rfl, rfl, (fun h => nomatch h), .inr hc⟩, ⟨_, rfl, rfl, (fun h => nomatch h), .inl ⟨rfl, flatN_scal _⟩⟩, ⟨_, rfl, rfl, (fun h => nomatch h), .inl ⟨rfl, flatN_scal _⟩⟩, ⟨_, rfl, rfl, (fun h => nomatch h), .inl ⟨rfl, flatN_scal _⟩⟩, ⟨_, rfl, rfl, (fun h => nomatch h), .inl ⟨rfl, flatN_scal _⟩⟩, ⟨_, rfl, rfl, (fun h => nomatch h), .inl ⟨rfl, flatN_scal _⟩⟩, ⟨_, rfl, rfl, (fun h => nomatch h), .inl ⟨rfl, flatN_scal _⟩⟩, trivial⟩ (by decide) ⟨⟨_, rfl, rfl⟩, ⟨_, rfl, rfl⟩, ⟨_, rfl, rfl⟩, ⟨_, rfl, rfl⟩, ⟨_, rfl, rfl⟩, ⟨_, rfl, rfl⟩, ⟨_, rfl, rfl⟩, ⟨rfl, rfl, rfl, .inl ⟨rfl, flatN_scal _⟩⟩, trivial⟩ rfl rfl rfl rfl
theorem MeshDisperses_y (S : List Sc) (a : Nat → List Int) (u d : Int) (h1 : 0 < S.length) (h6 : S.length ≤ 6) (hu : -9223372036854775808 ≤ u ∧ u ≤ 9223372036854775807) (hd : -9223372036854775808 ≤ d ∧ d ≤ 9223372036854775807)
  (hv : ∀ k, k < S.length → SlV (memS S a) (k + 1) (sc S k).2 (flatN (a k)) (a k).length) :
  PCalls Tryz.prog 9 [.slice (some ⟨0, 0, none⟩) S.length INF, .agg #[.int .i64 u, .int .i64 d]] (memS S a) (.bool true) := by
 have hk7 := fun (n : Nat) (hn : 7 ≤ n) (v : Value) (h : v ∈ flatS S) => kp_mono hn (flatS_kp (S := S) (n := 7) (fun k hk => (hv k hk).kp (by omega)) v h)
 have hX := fun (k : Nat) (hk : k < S.length) => (hv k hk).form
 have hL := fun (hj : ∀ j, j < S.length → (a j).length ≤ 62) (k : Nat) (hk : k < S.length) => Nat.le_trans (hj k hk) (show 62 ≤ 1000000 by decide)
 refine MeshDisperses_w S a u d h1 h6 _ _ (fun k hk r => ?_) (fun k hk r => ld_2 (flatS_ld (m := some ⟨flatS S, false, 0⟩ :: r) (b := 0) (S := S) rfl rfl k hk))
  (fun k hk hl r => (hX k hk) ▸ rAmp_g ((hv k hk).of (memS_at S a r (by omega))) hl) (fun k hk hE r => (hX k hk) ▸ rDisp_g ((hv k hk).of (memS_at S a r (by omega))) hE)
  (fun k hk hl r => (hX k hk) ▸ CopyInts_g ((hv k hk).of (memS_at S a r (by omega))) hl)
  (fun k hk m b c blk e1 e2 hl e3 => Dispersion_q (n := (a k).length) (c := c) (a k) e1 e2 rfl hl e3) (fun n hn v h => hk7 n hn v h) (fun k h => ⟨if_neg h, if_neg h⟩)
  (chX S a u d) (chR S a u d) (by have := chR_len S a u d; omega) (fun hj => own_s S a u d _ _ _ h1 h6 (own_0 S a u d h1 h6 hu hd (hL hj)))
  (fun hj => rown_s S a u d _ _ (hk7 7 (Nat.le_refl _)) (rChosen_0 S a u d INF h1 h6 hu hd (hL hj) hv _ _ (ch_F S a u d))) (memS_ro S a)
 rw [← hX k hk]
 exact flatS_g k hk
end Go.Proofs.YtmohcmghbfhdlaaGreat
end
end
/- A loop's end in the small memory, where the first blocks stay as they are, and a block's cells may be forgotten. -/
section
set_option linter.unusedSimpArgs false
set_option linter.unusedVariables false
namespace Go
namespace Ab
open Go.RowKit
def cellsJ (σ : Nat → Nat) (n : Nat) (cs' cs : List Value) : Prop := cellsRen σ n cs' cs ∨ ∃ r, cs' = List.replicate r jk ∧ r ≤ cs.length
def memJ (σ : Nat → Nat) (n : Nat) (m : Mem) : Nat → Mem → Prop
 | _, [] => True
 | k, none :: rest => memJ σ n m (k + 1) rest
 | k, some blk' :: rest => (∃ blk, m.at (σ k) = some blk ∧ blk.own = blk'.own ∧ blk.shp = blk'.shpR σ n ∧ cellsJ σ n blk'.cells blk.cells) ∧ memJ σ n m (k + 1) rest
theorem memJ_get {σ : Nat → Nat} {n : Nat} {m : Mem} : ∀ (m' : Mem) (k : Nat), memJ σ n m k m' → ∀ b blk', m'.at b = some blk' → ∃ blk, m.at (σ (k + b)) = some blk ∧ blk.own = blk'.own ∧ blk.shp = blk'.shpR σ n ∧ cellsJ σ n blk'.cells blk.cells
 | [], k, _, b, blk', hb => by simp [Mem.at] at hb
 | none :: rest, k, h, b, blk', hb => by
  cases b with
  | zero => simp [Mem.at] at hb
  | succ b =>
   have := memJ_get rest (k + 1) h b blk' (by simpa [Mem.at] using hb)
   rwa [show k + 1 + b = k + (b + 1) by omega] at this
 | some blk0 :: rest, k, h, b, blk', hb => by
  cases b with
  | zero =>
   simp [Mem.at] at hb
   subst hb
   exact h.1
  | succ b =>
   have := memJ_get rest (k + 1) h.2 b blk' (by simpa [Mem.at] using hb)
   rwa [show k + 1 + b = k + (b + 1) by omega] at this
theorem St.renJ {E : Env} {ρ : Ren} {m m' : Mem} {w : World} (σ : Nat → Nat) (hm : ∀ b blk', m'.at b = some blk' → ∃ blk, m.at (σ b) = some blk ∧ blk.own = blk'.own ∧ blk.shp = blk'.shpR σ m'.length ∧ cellsJ σ m'.length blk'.cells blk.cells) (hid : ∀ b, b < E.n0 → b < m'.length ∧ σ b = b)
  (hinj : ∀ b b', b < m'.length → b' < m'.length → σ b = σ b' → b = b') (h : St E ρ m w) : St E (ρ.via m'.length σ) m' w := by
 refine ⟨h.os, h.tape, h.output, h.size, h.same, fun b hb => ?_, Nat.le_of_not_lt fun hlt => absurd (hid _ hlt).1 (Nat.lt_irrefl _), fun b pl hb => ?_, fun b blk' hb => ?_, fun b blk' pl hb ho hp => ?_⟩
 ·obtain ⟨h1, h2⟩ := hid b hb
  rw [via_get h1, h2]
  exact h.ext b hb
 ·unfold Ren.via at hb
  split at hb
  ·assumption
  ·cases hb
 ·obtain ⟨blk, g1, g2, g3, g4⟩ := hm b blk' hb
  obtain ⟨pl, hp, ⟨x, c, ty, fr, k0, kx, k1, k2, k3⟩, hown⟩ := h.mem _ blk g1
  have hlt := Mem.at_lt hb
  obtain ⟨g3, hrow⟩ := shp_eq g3
  refine ⟨pl, by rw [via_get hlt]; exact hp, ⟨x, c, ty, fr, k0, hrow _ _ _ _ _ _ (fun b hb => via_get hb) kx, g3 ▸ k1, fun i v hv => ?_, fun ho => k3 (g2.trans ho)⟩, fun ho b2 blk2 pl2 hne hb2 hp2 => ?_⟩
  ·rcases g4 with g4 | ⟨r, q, hr⟩
   ·obtain ⟨q1, q2⟩ := cellsRen_get g4 hv
    obtain ⟨v', q3, q4⟩ := k2 i _ q1
    exact ⟨v', q3, rn1_to q4 q2⟩
   ·rw [q] at hv
    have hi := (List.getElem?_eq_some_iff.1 hv).1
    rw [List.length_replicate] at hi
    have e : v = jk := by rw [List.getElem?_replicate, if_pos hi] at hv; exact (Option.some.inj hv).symm
    obtain ⟨v', q3, _⟩ := k2 i _ (List.getElem?_eq_getElem (show i < blk.cells.length by omega))
    exact ⟨v', q3, e ▸ .jk _⟩
  ·obtain ⟨blk3, j1, j2, j3, j4⟩ := hm b2 blk2 hb2
   have hlt2 := Mem.at_lt hb2
   rw [via_get hlt2] at hp2
   exact hown (g2.trans ho) (σ b2) blk3 pl2 (fun e => hne (hinj b2 b hlt2 hlt e)) j1 hp2
 ·obtain ⟨blk, g1, g2, g3, g4⟩ := hm b blk' hb
  rw [via_get (Mem.at_lt hb)] at hp
  exact h.fresh _ blk pl g1 (g2.trans ho) hp
theorem Wk.keepP {E : Env} {t t' : T} {P old new : Mem} (js : List Nat) (hE : E.n0 ≤ P.length) (hl : new.length = js.length) (hj : kOk P.length js = true)
  (hP : ∀ b blk, P.at b = some blk → (∀ v ∈ blk.cells, kp P.length v) ∧ blk.obj = Ob.plain) (ht : RenT (kσ P.length js) (P ++ new).length t' t) (hm : memJ (kσ P.length js) (P ++ new).length (P ++ old) P.length new) : Wk E t (P ++ old) t' (P ++ new) := by
 have hln : (P ++ new).length = P.length + js.length := by rw [List.length_append, hl]
 have hat : ∀ (x : Mem) (b : Nat), b < P.length → (P ++ x).at b = P.at b := fun x b hb => by
  unfold Mem.at
  rw [List.getD_eq_getElem?_getD, List.getD_eq_getElem?_getD, List.getElem?_append_left hb]
 have hat2 : ∀ (x : Mem) (b : Nat), P.length ≤ b → (P ++ x).at b = x.at (b - P.length) := fun x b hb => by
  unfold Mem.at
  rw [List.getD_eq_getElem?_getD, List.getD_eq_getElem?_getD, List.getElem?_append_right hb]
 have hM : ∀ b blk', (P ++ new).at b = some blk' → ∃ blk, (P ++ old).at (kσ P.length js b) = some blk ∧ blk.own = blk'.own ∧ blk.shp = blk'.shpR (kσ P.length js) (P ++ new).length ∧ cellsJ (kσ P.length js) (P ++ new).length blk'.cells blk.cells := fun b blk' hb => by
  by_cases h : b < P.length
  ·rw [hat new b h] at hb
   obtain ⟨h1, h2⟩ := hP b blk' hb
   refine ⟨blk', ?_, rfl, ?_, .inl (cells_keep h1 (by rw [hln]; omega))⟩
   ·unfold kσ
    rw [if_pos h, hat old b h]
    exact hb
   ·unfold Blk.shp Blk.shpR
    rw [h2]
    rfl
  ·rw [hat2 new b (by omega)] at hb
   have := memJ_get new P.length hm (b - P.length) blk' hb
   rwa [show P.length + (b - P.length) = b by omega] at this
 intro ρ tmps w htr hs
 refine ⟨ρ.via (P ++ new).length (kσ P.length js), ⟨ht.rel.1.trans htr.1, fun i v' hv => ?_⟩, hs.renJ _ hM (kσ_id hE hln) (kσ_inj hln hj)⟩
 rcases ht.rel.2 i v' hv with rfl | ⟨h1, h2⟩
 ·have hi : i < t'.length := (List.getElem?_eq_some_iff.1 hv).1
  rw [ht.rel.1, htr.1] at hi
  exact ⟨tmps[i], by simp [hi], .jk _⟩
 ·obtain ⟨u, q1, q2⟩ := htr.2 i _ h1
  exact ⟨u, q1, rn3_to q2 h2⟩
end Ab
end Go
end
