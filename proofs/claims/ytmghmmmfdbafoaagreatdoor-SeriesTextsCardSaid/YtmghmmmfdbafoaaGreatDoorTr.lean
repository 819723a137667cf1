/- Texts, for any chapter: the reference: Decimal, Number, Cut. -/
import Derived.Test.YtmghmmmfdbafoaaGreatDoorLi
import Derived.Test.YtmghmmmfdbafoaaGreatDoorProg
import Derived.Test.YtmghmmmfdbafoaaGreatDoorAbU
import Derived.Test.YtmghmmmfdbafoaaGreatDoorAbN
import Derived.Test.YtmghmmmfdbafoaaGreatDoorAbS
import Derived.Test.YtmghmmmfdbafoaaGreatDoorAbJ
import Derived.Test.YtmghmmmfdbafoaaGreatDoorAbD
import Derived.Test.YtmghmmmfdbafoaaGreatDoorAbL
set_option linter.unusedSimpArgs false
set_option linter.unusedVariables false
section
section
namespace Go.Tx
open Go.Lib
def tx (l : List UInt8) : ByteArray := ⟨l.toArray⟩
theorem tx_list (l : List UInt8) : (tx l).data.toList = l := rfl
theorem tx_app (a b : List UInt8) : tx (a ++ b) = tx a ++ tx b := by
  apply ByteArray.ext
  simp [tx, ByteArray.data_append]
theorem tx_size (l : List UInt8) : (tx l).size = l.length := rfl
theorem decS_le (u : Nat) (acc : List UInt8) : acc.length ≤ (decS u acc).length := by
  unfold decS
  split
  · exact Nat.le_refl _
  · rw [List.length_append]; omega
def dg (u : Nat) : UInt8 := UInt8.ofNat (48 + u % 10)
theorem dg_val (u : Nat) : (dg u).toNat = 48 + u % 10 := dig_of _ (Nat.mod_lt _ (by decide))
theorem wrap8 {n : Int} (h : 0 ≤ n ∧ n ≤ 255) : IntKind.u8.wrap n = n := by
  have e : n % 2 ^ 8 = n := by omega
  simp only [IntKind.wrap, IntKind.bits, IntKind.signed, Bool.false_and, Bool.false_eq_true, if_false]
  exact e
theorem ld_dg {m : Ab.Mem} {b : Nat} {x : Int} {u : Nat} (h : m.ld b 0 1 = some [.int .u8 x]) (hx : x = 48 + u % 10) : m.ld b 0 1 = some ([dg u].map fun b => .int .u8 b.toNat) := by
  rw [h, hx]
  simp only [List.map_cons, List.map_nil, dg_val]
  rfl
theorem tmod10 (u : Int) : (-9 ≤ u.tmod 10 ∧ u.tmod 10 ≤ 9) ∧ (u.tmod 10).natAbs = u.natAbs % 10 := by
  have h : (u.tmod 10).natAbs = u.natAbs % 10 := Int.natAbs_tmod u 10
  omega
theorem tdiv10 (u : Int) (h0 : -9223372036854775808 ≤ u) (h1 : u ≤ 9223372036854775807) : (-9223372036854775808 ≤ u.tdiv 10 ∧ u.tdiv 10 ≤ 9223372036854775807) ∧ (u.tdiv 10).natAbs = u.natAbs / 10 := by
  have h : (u.tdiv 10).natAbs = u.natAbs / 10 := Int.natAbs_tdiv u 10
  omega
def sgT (n : Int) : ByteArray := if n < 0 then tx [45] else tx []
theorem sgT_size (n : Int) : (sgT n).size ≤ 1 := by
  unfold sgT
  split <;> decide
theorem sgT_y {n : Int} (h : n < 0) : sgT n = tx [45] := if_pos h
theorem sgT_n {n : Int} (h : ¬ n < 0) : sgT n = tx [] := if_neg h
end Go.Tx
namespace Go.Proofs.YtmghmmmfdbafoaaGreatDoor
open Go Go.RowKit Go.Ab Go.Lib Go.Tx
set_option maxRecDepth 100000
set_option maxHeartbeats 2000000
attribute [local irreducible] OQ OW AL AW AD AF SW
theorem Size_x (n : Int) (hn : -100 ≤ n ∧ n ≤ 100) (m : Mem) : PCalls Tryz.prog 56 [.int .i64 n] m (.int .i64 n.natAbs) := by
  refine PCalls.any ?_ rfl rfl m
  refine PCalls.enter (t := [.int .i64 n, undef, undef, undef, undef, undef, undef]) Tryz.func56 rfl (ro_nil) rfl fun E => ?_
  repeat' (first
    | with_reducible refine Then.n ?_
    | with_reducible refine Then.r ?_
    | with_reducible refine Then.x ?_
    | with_reducible refine InB.n ?_
    | with_reducible refine InB.r ?_
    | with_reducible refine InB.hit ?_
    | with_reducible refine InB.miss (by decide) ?_
    | ((with_reducible refine AL.on ?_); first
      | ((first | ((with_reducible refine AL.k_assign ?_); first | (refine AL.q rfl (OQ.assign (by conv => lhs; whnf)) ?_)) | ((with_reducible refine AL.k_move ?_); first | (refine AL.q rfl (OQ.move (by conv => lhs; whnf)) ?_)) | ((with_reducible refine AL.k_unOp ?_); first | refine AL.q rfl (OQ.negi rfl (by omega)) ?_ | refine AL.q rfl (OQ.neg rfl) ?_) | ((with_reducible refine AL.k_call ?_); first | refine AL.q rfl (OQ.max2 rfl rfl) ?_)); (conv => (arg 5; try tactic => exact nrm)))
      | refine AL.nil ?_)
    | ((with_reducible refine AW.on ?_); first
      | refine AW.seq ?_
      | refine AW.skip ?_
      | refine AW.exit ?_
      | refine AW.ret ?_
      | refine AW.block ?_
      | refine AW.region ?_
      | (refine AW.conds rfl (fun hc => ?_) (fun hc => ?_) <;> (try simp only [decide_eq_true_eq, decide_eq_false_iff_not, Bool.not_true, Bool.not_false, Bool.not_eq_true', Bool.not_eq_false', Int.not_lt, Int.not_le, Classical.not_not, ne_eq] at hc) <;> first | (exfalso; first | contradiction | (omega); done) | skip))
    | ((with_reducible refine FinP.on ?_); (first | refine FinP.ret (.tmp (by conv => lhs; whnf) .nil) ?_ rfl | refine FinP.end (.tmp (by conv => lhs; whnf) .nil) ?_ rfl); (try simp only [pack, List.drop, List.take]); all_goals (congr 1; first | omega | (split <;> omega))))
theorem Decimal_q (n : Int) (h0 : -9223372036854775808 ≤ n) (h1 : n ≤ 9223372036854775807) (m : Mem) : PCalls Tryz.prog 28 [.int .i64 n] m (.string (tx (itoa n))) := by
  refine PCalls.any ?_ rfl rfl m
  have hl := itoa_len n h0 h1
  have hz : n = 0 → itoa n = [48] := fun h => by rw [h]; exact itoa_0
  have he : n ≠ 0 → itoa n = (if n < 0 then [45] else []) ++ decS n.natAbs [] := decS_end
  have hle : n ≠ 0 → (decS n.natAbs []).length ≤ 20 := fun h => by
    have := he h
    rw [this, List.length_append] at hl
    omega
  have hend : n ≠ 0 → ∀ acc, decS n.natAbs [] = decS 0 acc → sgT n ++ tx acc = tx (itoa n) := fun h acc hacc => by
    rw [he h, tx_app, hacc]
    congr 1
    unfold sgT
    split <;> rfl
  have hzz : n = 0 → tx [48] = tx (itoa n) := fun h => by rw [hz h]
  clear he hz hl
  generalize tx (itoa n) = R at *
  refine PCalls.enterJ (t := [.int .i64 n, undef, undef, undef, undef, undef, undef, undef, undef, undef, undef, undef, undef, undef, undef, undef, undef, undef, undef, undef, undef, undef, undef, undef, undef, undef, undef]) Tryz.func28 rfl (ro_nil) rfl fun E hE => ?_
  repeat' (first
    | with_reducible refine Then.n ?_
    | with_reducible refine Then.r ?_
    | with_reducible refine Then.x ?_
    | with_reducible refine InB.n ?_
    | with_reducible refine InB.r ?_
    | with_reducible refine InB.hit ?_
    | with_reducible refine InB.miss (by decide) ?_
    | ((with_reducible refine AL.on ?_); first
      | ((first | ((with_reducible refine AL.k_assign ?_); first | (refine AL.q rfl (OQ.assign (by conv => lhs; whnf)) ?_)) | ((with_reducible refine AL.k_move ?_); first | (refine AL.q rfl (OQ.move (by conv => lhs; whnf)) ?_)) | ((with_reducible refine AL.k_binOp ?_); first | refine AL.q rfl (OQ.eql rfl rfl) ?_ | refine AL.q rfl (OQ.lss rfl rfl) ?_ | refine AL.q rfl (OQ.neq rfl rfl) ?_ | refine AL.q rfl (OQ.rem rfl rfl (by decide)) ?_ | refine AL.q rfl (OQ.addi rfl rfl (by omega)) ?_ | refine AL.q rfl (OQ.add rfl rfl) ?_ | (refine AL.q rfl (OQ.cat rfl rfl (by first | (show 1 + acc.length ≤ 9223372036854775807; omega) | (have hg := sgT_size n; show (sgT n).size + acc.length ≤ 9223372036854775807; omega))) ?_) | refine AL.q rfl (OQ.quoi rfl rfl (by decide) (by omega)) ?_ | refine AL.q rfl (OQ.quo rfl rfl (by decide)) ?_) | refine AL.q rfl (OQ.conv rfl Tryz.underlying3 Tryz.underlying5) ?_ | (refine AL.q rfl (OQ.ofBytes (e := 5) (ns := [dg u.natAbs]) rfl (by kernel_rfl) (by kernel_rfl) (by kernel_rfl) (by decide) (ld_dg (u := u.natAbs) rfl (by rw [wrap8 (by omega)]; omega))) ?_)); (conv => (arg 5; try tactic => exact nrm)))
      | ((first | first | refine AL.pcall (g := 56) rfl (by kernel_rfl) rfl ((by exact Size_x (u.tmod 10) (by omega) _)) ?_); (conv => (arg 5; try tactic => exact nrm)))
      | ((first | first | refine AL.w rfl (OW.buildSl (ty := 120) (zs := [.int .u8 0]) (n := 1) (g := false) (by kernel_rfl) (by kernel_rfl) rfl rfl rfl (by decide) (by decide) rfl rfl) ?_); (conv => (arg 5; try tactic => exact nrm)); (conv => (arg 6; try tactic => exact nrm)))
      | refine AL.nil ?_)
    | ((with_reducible refine AW.on ?_); first
      | refine AW.seq ?_
      | refine AW.skip ?_
      | refine AW.exit ?_
      | refine AW.ret ?_
      | ((refine AW.block (id := 0) ?_); (refine AW.wk (Wk.forget [true, false, false, true, true, false, false, false, false, false, false, false, false, false, false, false, false, false, false, false, false, false, false, false, false, false, false] rfl) ?_); (conv => (arg 4; simp only [fgt, if_true, if_false, Bool.false_eq_true])); (refine AW.loop (fun c t m => ∃ (u : Int) (acc : List UInt8), c = u.natAbs ∧ -9223372036854775808 ≤ u ∧ u ≤ 9223372036854775807 ∧ acc.length ≤ 30 ∧ decS n.natAbs [] = decS u.natAbs acc ∧ t = [.int .i64 (u), junk, junk, .string (tx acc), .string (sgT n), junk, junk, junk, junk, junk, junk, junk, junk, junk, junk, junk, junk, junk, junk, junk, junk, junk, junk, junk, junk, junk, junk] ∧ m = []) (n.natAbs) (by (refine ⟨n, [], rfl, h0, h1, by simp, rfl, ?_, rfl⟩; first | (rw [sgT_y ‹n < 0›]; rfl) | (rw [sgT_n (by omega)]; rfl))) ?_); (rintro c t m ⟨u, acc, rfl, hu0, hu1, hacc, hd, rfl, rfl⟩))
      | refine AW.block ?_
      | (refine AW.region (id := 8) ?_; ((have hm := tmod10 u; have hq := tdiv10 u hu0 hu1)))
      | refine AW.region ?_
      | (refine AW.conds rfl (fun hc => ?_) (fun hc => ?_) <;> (try simp only [decide_eq_true_eq, decide_eq_false_iff_not, Bool.not_true, Bool.not_false, Bool.not_eq_true', Bool.not_eq_false', Int.not_lt, Int.not_le, Classical.not_not, ne_eq] at hc) <;> first | (exfalso; first | contradiction | (omega); done) | skip))
    | ((with_reducible refine ex_on ?_); (have hl := hle ‹_›; rw [hd] at hl; have hs := decS_step (u := u.natAbs) (by omega) acc; have hl2 := decS_le (u.natAbs / 10) (dg u.natAbs :: acc); refine ⟨(u.tdiv 10).natAbs, [.int .i64 (u.tdiv 10), junk, junk, .string (tx (dg u.natAbs :: acc)), .string (sgT n), junk, junk, junk, junk, junk, junk, junk, junk, junk, junk, junk, junk, junk, junk, junk, junk, junk, junk, junk, junk, junk, junk], [], by omega, ?_, u.tdiv 10, dg u.natAbs :: acc, rfl, hq.1.1, hq.1.2, by (rw [hs] at hl; exact Nat.le_trans hl2 (Nat.le_trans hl (by decide))), by (rw [hd, hs, hq.2]; rfl), rfl, rfl⟩; rw [show (⟨#[dg u.natAbs]⟩ : ByteArray) ++ tx acc = tx (dg u.natAbs :: acc) from (tx_app [dg u.natAbs] acc).symm]; exact Wk.keep 0 [] (Nat.le_of_eq hE) rfl rfl (by repeat (first | exact RenT.nil | refine RenT.junk ?_ | refine RenT.val (by first | rfl | with_reducible assumption | (simp only [rn3, rn2, rn1, kσ]; done)) (by first | rfl | assumption | (simp [ok3, ok2, ok1]; done)) ?_)) trivial))
    | ((with_reducible refine FinJ.on ?_); ((first | refine FinJ.ret (.tmp (by conv => lhs; whnf) .nil) ?_ | refine FinJ.end (.tmp (by conv => lhs; whnf) .nil) ?_); (refine (fun hh => hh ▸ jle_flat rfl : ∀ {x : ByteArray}, x = R → jle (.string R) (pack [.string x])) ?_); first | exact hzz ‹_› | (obtain rfl : u = 0 := (by omega); exact hend (by omega) _ hd))))
end Go.Proofs.YtmghmmmfdbafoaaGreatDoor
end
end

section
section
namespace Go.Proofs.YtmghmmmfdbafoaaGreatDoor
open Go Go.RowKit Go.Ab Go.Lib Go.Tx
set_option maxRecDepth 100000
set_option maxHeartbeats 2000000
attribute [local irreducible] OQ OW AL AW AD AF SW
/-- A byte of a text. -/
def bt (l : List UInt8) (k : Nat) : UInt8 := l.getD k 0
theorem num_no {N : Option Int} (h : N = none) : jle (.tuple #[.int .i64 (N.getD 0), .bool N.isSome]) (pack [.int .i64 0, .bool false]) := by
  subst h
  exact jle_flat rfl
theorem num_yes {N : Option Int} {v : Int} (h : N = some v) : jle (.tuple #[.int .i64 (N.getD 0), .bool N.isSome]) (pack [.int .i64 v, .bool true]) := by
  subst h
  exact jle_flat rfl
theorem isD_of {c : UInt8} (h0 : 48 ≤ c.toNat) (h1 : c.toNat ≤ 57) : isD c = true := decide_eq_true ⟨h0, h1⟩
theorem Number_d (D : Nat) (hD : D ≤ 10) (l : List UInt8) (hl : l.length ≤ 1000000) (m : Mem) : PCalls Tryz.prog 30 [.string (tx l), .int .i64 D] m (.tuple #[.int .i64 ((numD D l).getD 0), .bool (numD D l).isSome]) := by
  refine PCalls.any ?_ rfl rfl m
  have hsz : (tx l).size = l.length := rfl
  have hch : ∀ i : Int, 0 ≤ i → i < l.length → (tx l).data[i.toNat]? = some (bt l i.toNat) := fun i h0 h1 => by
    show l.toArray[i.toNat]? = some (l.getD i.toNat 0)
    rw [List.getElem?_toArray, List.getD_eq_getElem?_getD, List.getElem?_eq_getElem (by omega)]
    rfl
  have hin : ∀ {c : UInt8} {n : Nat}, n < 256 → c.toNat = n → c = UInt8.ofNat n := fun hn h => by
    apply UInt8.toNat.inj
    rw [h, UInt8.toNat_ofNat']
    omega
  have hat : ∃ a, atR l a := by
    by_cases h : 0 < l.length ∧ l.getD 0 0 = 45
    · exact ⟨1, .inl ⟨rfl, h.1, h.2⟩⟩
    · exact ⟨0, .inr ⟨rfl, by
        by_cases h0 : l.length = 0
        · exact .inl h0
        · exact .inr fun e => h ⟨by omega, e⟩⟩⟩
  obtain ⟨a, ha⟩ := hat
  have n1 := fun h => numD_no (D := D) (numR_1 ha h)
  have n2 := fun h => numD_2 (D := D) ha h
  have n3 : a < l.length → (bt l a).toNat = 48 → 1 < l.length → numD D l = none := fun h h' h1 => numD_no (numR_3 ha h (hin (by decide) h') h1)
  have n4 : ∀ k, a ≤ k → k < l.length → ((bt l k).toNat < 48 ∨ 57 < (bt l k).toNat) → numD D l = none := fun k h h' h1 => numD_no (numR_4 ha k h h' (by
    show isD (bt l k) = false
    unfold isD
    rw [decide_eq_false_iff_not]
    omega))
  have n5 : a < l.length → l.length - a ≤ D → ((bt l a).toNat ≠ 48 ∨ ¬ 1 < l.length) → (∀ k, a ≤ k → k < l.length → isD (bt l k) = true) → numD D l = some (if a = 1 then -(dvT l a l.length : Int) else dvT l a l.length) := fun h h1 h2 h3 => by
    rw [dvT_end, numD_5 ha h1]
    refine numR_5 ha h (by omega) (fun hh => ?_) h3
    rcases h2 with h2 | h2
    · exact h2 (by (show (l.getD a 0).toNat = 48; rw [hh.1]; rfl))
    · exact h2 hh.2
  have hd10 : ∀ k, k ≤ l.length → l.length - a ≤ D → (∀ j, a ≤ j → j < k → isD (bt l j) = true) → dvT l a k < 10000000000 := fun k h h1 h2 => dvT_10 h (by omega) h2
  have hst : ∀ k, a ≤ k → k < l.length → dvT l a (k + 1) = dvT l a k * 10 + ((bt l k).toNat - 48) := fun k h h1 => dvT_succ h h1
  have h00 := dvT_0 l a
  have ha' : (a = 1 ∧ 0 < l.length ∧ (bt l 0).toNat = 45) ∨ (a = 0 ∧ (l.length = 0 ∨ (bt l 0).toNat ≠ 45)) := by
    rcases ha with ⟨h1, h2, h3⟩ | ⟨h1, h2⟩
    · exact .inl ⟨h1, h2, by (show (l.getD 0 0).toNat = 45; rw [h3]; rfl)⟩
    · exact .inr ⟨h1, h2.imp_right fun h h' => h (hin (by decide) h')⟩
  clear ha
  generalize numD D l = N at *
  rcases ha' with ⟨rfl, hp, h45⟩ | ⟨rfl, h45⟩
  · skip
    refine PCalls.enterJ (t := [.string (tx l), .int .i64 D, undef, undef, undef, undef, undef, undef, undef, undef, undef, undef, undef, undef, undef, undef, undef, undef, undef, undef, undef, undef, undef, undef, undef, undef, undef, undef, undef, undef, undef, undef, undef, undef, undef, undef, undef, undef, undef, undef, undef, undef, undef, undef, undef, undef, undef, undef, undef, undef, undef, undef, undef, undef, undef, undef, undef, undef, undef, undef, undef, undef, undef, undef, undef, undef, undef, undef, undef, undef]) Tryz.func30 rfl (ro_nil) rfl fun E hE => ?_
    repeat' (first
      | with_reducible refine Then.n ?_
      | with_reducible refine Then.r ?_
      | with_reducible refine Then.x ?_
      | with_reducible refine InB.n ?_
      | with_reducible refine InB.r ?_
      | with_reducible refine InB.hit ?_
      | with_reducible refine InB.miss (by decide) ?_
      | ((with_reducible refine AL.on ?_); first
        | (refine AL.gd rfl ?_; first | (refine AL.gskip rfl rfl ?_; (conv => (arg 5; try tactic => exact nrm))) | (refine AL.gs1 rfl rfl (fun hc => ?_) (fun hc => ?_) <;> (try simp only [decide_eq_true_eq, decide_eq_false_iff_not, Bool.not_true, Bool.not_false, Bool.not_eq_true', Bool.not_eq_false', Int.not_lt, Int.not_le, Classical.not_not, ne_eq] at hc) <;> first | (exfalso; first | contradiction | (omega); done) | (conv => (arg 5; try tactic => exact nrm))) | (refine AL.gs0 rfl rfl (fun hc => ?_) (fun hc => ?_) <;> (try simp only [decide_eq_true_eq, decide_eq_false_iff_not, Bool.not_true, Bool.not_false, Bool.not_eq_true', Bool.not_eq_false', Int.not_lt, Int.not_le, Classical.not_not, ne_eq] at hc) <;> first | (exfalso; first | contradiction | (omega); done) | (conv => (arg 5; try tactic => exact nrm))))
        | ((first | ((with_reducible refine AL.k_move ?_); first | (refine AL.q rfl (OQ.move (by conv => lhs; whnf)) ?_)) | ((with_reducible refine AL.k_assign ?_); first | (refine AL.q rfl (OQ.assign (by conv => lhs; whnf)) ?_)) | ((with_reducible refine AL.k_binOp ?_); first | refine AL.q rfl (OQ.gtr rfl rfl) ?_ | refine AL.q rfl (OQ.eql rfl rfl) ?_ | refine AL.q rfl (OQ.subi rfl rfl (by omega)) ?_ | refine AL.q rfl (OQ.sub rfl rfl) ?_ | refine AL.q rfl (OQ.lss rfl rfl) ?_ | refine AL.q rfl (OQ.muli rfl rfl (by omega)) ?_ | refine AL.q rfl (OQ.mul rfl rfl) ?_ | refine AL.q rfl (OQ.addi rfl rfl (by omega)) ?_ | refine AL.q rfl (OQ.add rfl rfl) ?_) | ((with_reducible refine AL.k_call ?_); first | refine AL.q rfl (OQ.lenStr rfl Tryz.underlying9) ?_) | ((with_reducible refine AL.k_index ?_); first | refine AL.q rfl (OQ.idxStr rfl rfl Tryz.underlying9 (by omega) (hch _ (by omega) (by omega))) ?_) | ((with_reducible refine AL.k_pick ?_); first | (refine AL.q rfl (OQ.pickT rfl (by with_reducible rfl) (by conv => lhs; whnf)) ?_) | (refine AL.q rfl (OQ.pickF rfl (by with_reducible rfl) (by conv => lhs; whnf)) ?_)) | ((with_reducible refine AL.k_unOp ?_); first | refine AL.q rfl (OQ.negi rfl (by omega)) ?_ | refine AL.q rfl (OQ.neg rfl) ?_) | refine AL.q rfl (OQ.conv rfl Tryz.underlying5 Tryz.underlying3) ?_); (conv => (arg 5; try tactic => exact nrm)))
        | (refine AL.bs rfl (fun hc => ?_) (fun hc => ?_) <;> (fail_if_success (with_reducible exact lit_no hc)) <;> (try simp only [decide_eq_true_eq, decide_eq_false_iff_not, Bool.not_true, Bool.not_false, Bool.not_eq_true', Bool.not_eq_false', Int.not_lt, Int.not_le, Classical.not_not, ne_eq] at hc) <;> first | (exfalso; first | contradiction | (omega); done) | (conv => (arg 5; try tactic => exact nrm)))
        | refine AL.nil ?_)
      | ((with_reducible refine AW.on ?_); first
        | refine AW.seq ?_
        | refine AW.skip ?_
        | refine AW.exit ?_
        | refine AW.ret ?_
        | ((refine AW.block (id := 0) ?_); (refine AW.wk (Wk.forget [true, false, false, false, false, false, true, true, true, false, false, false, false, false, false, false, false, false, false, false, false, false, false, false, false, false, false, false, false, false, false, false, false, false, false, false, false, false, false, false, false, false, false, false, false, false, false, false, false, false, false, false, false, false, false, false, false, false, false, false, false, false, false, false, false, false, false, false, false, false] rfl) ?_); (conv => (arg 4; simp only [fgt, if_true, if_false, Bool.false_eq_true])); (refine AW.loop (fun c t m => ∃ k : Nat, c = l.length - k ∧ 1 ≤ k ∧ k ≤ l.length ∧ (∀ j, 1 ≤ j → j < k → isD (bt l j) = true) ∧ t = [.string (tx l), junk, junk, junk, junk, junk, .int .i64 (1), .int .i64 (dvT l 1 k), .int .i64 (k), junk, junk, junk, junk, junk, junk, junk, junk, junk, junk, junk, junk, junk, junk, junk, junk, junk, junk, junk, junk, junk, junk, junk, junk, junk, junk, junk, junk, junk, junk, junk, junk, junk, junk, junk, junk, junk, junk, junk, junk, junk, junk, junk, junk, junk, junk, junk, junk, junk, junk, junk, junk, junk, junk, junk, junk, junk, junk, junk, junk, junk] ∧ m = []) (l.length - 1) (by exact ⟨1, by omega, Nat.le_refl _, by omega, fun j h1 h2 => absurd h2 (by omega), by rw [h00]; rfl, rfl⟩) ?_); (rintro c t m ⟨k, rfl, hk0, hk, hdg, rfl, rfl⟩))
        | refine AW.block ?_
        | (refine AW.region (id := 10) ?_; ((have hkl : k < l.length := (by omega); have hv := hd10 k hk (by omega) hdg)))
        | (refine AW.region (id := 12) ?_; ((have hw : IntKind.i64.wrap (IntKind.u8.wrap (((bt l k).toNat : Int) - 48)) = ((bt l k).toNat : Int) - 48 := (by rw [wrap8 (by omega), wrap_id (by omega)]))))
        | (refine AW.region (id := 13) ?_; ((obtain rfl : k = l.length := (by omega); have hv := hd10 l.length hk (by omega) hdg)))
        | refine AW.region ?_
        | (refine AW.conds rfl (fun hc => ?_) (fun hc => ?_) <;> (try simp only [decide_eq_true_eq, decide_eq_false_iff_not, Bool.not_true, Bool.not_false, Bool.not_eq_true', Bool.not_eq_false', Int.not_lt, Int.not_le, Classical.not_not, ne_eq] at hc) <;> first | (exfalso; first | contradiction | (omega); done) | skip))
      | ((with_reducible refine ex_on ?_); (refine ⟨l.length - (k + 1), [.string (tx l), junk, junk, junk, junk, junk, .int .i64 (1), .int .i64 (((dvT l 1 (k + 1) : Nat) : Int)), .int .i64 (k + 1), junk, junk, junk, junk, junk, junk, junk, junk, junk, junk, junk, junk, junk, junk, junk, junk, junk, junk, junk, junk, junk, junk, junk, junk, junk, junk, junk, junk, junk, junk, junk, junk, junk, junk, junk, junk, junk, junk, junk, junk, junk, junk, junk, junk, junk, junk, junk, junk, junk, junk, junk, junk, junk, junk, junk, junk, junk, junk, junk, junk, junk], [], by omega, ?_, k + 1, rfl, by omega, by omega, fun j h1 h2 => (by rcases Nat.lt_or_eq_of_le (Nat.le_of_lt_succ h2) with h | h; (exact hdg j h1 h); (rw [h]; exact isD_of (by omega) (by omega))), rfl, rfl⟩; rw [show (((dvT l 1 (k + 1) : Nat) : Int)) = 10 * (dvT l 1 k : Int) + IntKind.i64.wrap (IntKind.u8.wrap (((bt l k).toNat : Int) - 48)) from (by rw [hw, hst k hk0 hkl]; omega)]; exact Wk.forget [true, false, false, false, false, false, true, true, true, false, false, false, false, false, false, false, false, false, false, false, false, false, false, false, false, false, false, false, false, false, false, false, false, false, false, false, false, false, false, false, false, false, false, false, false, false, false, false, false, false, false, false, false, false, false, false, false, false, false, false, false, false, false, false, false, false, false, false, false, false] rfl))
      | ((with_reducible refine FinJ.on ?_); ((first | refine FinJ.ret (.tmp (by conv => lhs; whnf) (.tmp (by conv => lhs; whnf) .nil)) ?_ | refine FinJ.end (.tmp (by conv => lhs; whnf) (.tmp (by conv => lhs; whnf) .nil)) ?_); first | exact num_no (n1 (by omega)) | exact num_no (n2 (by omega)) | exact num_no (n3 (by omega) (by omega) (by omega)) | exact num_no (n4 k hk0 hkl (by omega)) | exact num_yes (n5 (by omega) (by omega) (by omega) hdg))))
  · skip
    refine PCalls.enterJ (t := [.string (tx l), .int .i64 D, undef, undef, undef, undef, undef, undef, undef, undef, undef, undef, undef, undef, undef, undef, undef, undef, undef, undef, undef, undef, undef, undef, undef, undef, undef, undef, undef, undef, undef, undef, undef, undef, undef, undef, undef, undef, undef, undef, undef, undef, undef, undef, undef, undef, undef, undef, undef, undef, undef, undef, undef, undef, undef, undef, undef, undef, undef, undef, undef, undef, undef, undef, undef, undef, undef, undef, undef, undef]) Tryz.func30 rfl (ro_nil) rfl fun E hE => ?_
    repeat' (first
      | with_reducible refine Then.n ?_
      | with_reducible refine Then.r ?_
      | with_reducible refine Then.x ?_
      | with_reducible refine InB.n ?_
      | with_reducible refine InB.r ?_
      | with_reducible refine InB.hit ?_
      | with_reducible refine InB.miss (by decide) ?_
      | ((with_reducible refine AL.on ?_); first
        | (refine AL.gd rfl ?_; first | (refine AL.gskip rfl rfl ?_; (conv => (arg 5; try tactic => exact nrm))) | (refine AL.gs1 rfl rfl (fun hc => ?_) (fun hc => ?_) <;> (try simp only [decide_eq_true_eq, decide_eq_false_iff_not, Bool.not_true, Bool.not_false, Bool.not_eq_true', Bool.not_eq_false', Int.not_lt, Int.not_le, Classical.not_not, ne_eq] at hc) <;> first | (exfalso; first | contradiction | (omega); done) | (conv => (arg 5; try tactic => exact nrm))) | (refine AL.gs0 rfl rfl (fun hc => ?_) (fun hc => ?_) <;> (try simp only [decide_eq_true_eq, decide_eq_false_iff_not, Bool.not_true, Bool.not_false, Bool.not_eq_true', Bool.not_eq_false', Int.not_lt, Int.not_le, Classical.not_not, ne_eq] at hc) <;> first | (exfalso; first | contradiction | (omega); done) | (conv => (arg 5; try tactic => exact nrm))))
        | ((first | ((with_reducible refine AL.k_move ?_); first | (refine AL.q rfl (OQ.move (by conv => lhs; whnf)) ?_)) | ((with_reducible refine AL.k_assign ?_); first | (refine AL.q rfl (OQ.assign (by conv => lhs; whnf)) ?_)) | ((with_reducible refine AL.k_binOp ?_); first | refine AL.q rfl (OQ.gtr rfl rfl) ?_ | refine AL.q rfl (OQ.eql rfl rfl) ?_ | refine AL.q rfl (OQ.subi rfl rfl (by omega)) ?_ | refine AL.q rfl (OQ.sub rfl rfl) ?_ | refine AL.q rfl (OQ.lss rfl rfl) ?_ | refine AL.q rfl (OQ.muli rfl rfl (by omega)) ?_ | refine AL.q rfl (OQ.mul rfl rfl) ?_ | refine AL.q rfl (OQ.addi rfl rfl (by omega)) ?_ | refine AL.q rfl (OQ.add rfl rfl) ?_) | ((with_reducible refine AL.k_call ?_); first | refine AL.q rfl (OQ.lenStr rfl Tryz.underlying9) ?_) | ((with_reducible refine AL.k_index ?_); first | refine AL.q rfl (OQ.idxStr rfl rfl Tryz.underlying9 (by omega) (hch _ (by omega) (by omega))) ?_) | ((with_reducible refine AL.k_pick ?_); first | (refine AL.q rfl (OQ.pickT rfl (by with_reducible rfl) (by conv => lhs; whnf)) ?_) | (refine AL.q rfl (OQ.pickF rfl (by with_reducible rfl) (by conv => lhs; whnf)) ?_)) | ((with_reducible refine AL.k_unOp ?_); first | refine AL.q rfl (OQ.negi rfl (by omega)) ?_ | refine AL.q rfl (OQ.neg rfl) ?_) | refine AL.q rfl (OQ.conv rfl Tryz.underlying5 Tryz.underlying3) ?_); (conv => (arg 5; try tactic => exact nrm)))
        | (refine AL.bs rfl (fun hc => ?_) (fun hc => ?_) <;> (fail_if_success (with_reducible exact lit_no hc)) <;> (try simp only [decide_eq_true_eq, decide_eq_false_iff_not, Bool.not_true, Bool.not_false, Bool.not_eq_true', Bool.not_eq_false', Int.not_lt, Int.not_le, Classical.not_not, ne_eq] at hc) <;> first | (exfalso; first | contradiction | (omega); done) | (conv => (arg 5; try tactic => exact nrm)))
        | refine AL.nil ?_)
      | ((with_reducible refine AW.on ?_); first
        | refine AW.seq ?_
        | refine AW.skip ?_
        | refine AW.exit ?_
        | refine AW.ret ?_
        | ((refine AW.block (id := 0) ?_); (refine AW.wk (Wk.forget [true, false, false, false, false, false, true, true, true, false, false, false, false, false, false, false, false, false, false, false, false, false, false, false, false, false, false, false, false, false, false, false, false, false, false, false, false, false, false, false, false, false, false, false, false, false, false, false, false, false, false, false, false, false, false, false, false, false, false, false, false, false, false, false, false, false, false, false, false, false] rfl) ?_); (conv => (arg 4; simp only [fgt, if_true, if_false, Bool.false_eq_true])); (refine AW.loop (fun c t m => ∃ k : Nat, c = l.length - k ∧ 0 ≤ k ∧ k ≤ l.length ∧ (∀ j, 0 ≤ j → j < k → isD (bt l j) = true) ∧ t = [.string (tx l), junk, junk, junk, junk, junk, .int .i64 (0), .int .i64 (dvT l 0 k), .int .i64 (k), junk, junk, junk, junk, junk, junk, junk, junk, junk, junk, junk, junk, junk, junk, junk, junk, junk, junk, junk, junk, junk, junk, junk, junk, junk, junk, junk, junk, junk, junk, junk, junk, junk, junk, junk, junk, junk, junk, junk, junk, junk, junk, junk, junk, junk, junk, junk, junk, junk, junk, junk, junk, junk, junk, junk, junk, junk, junk, junk, junk, junk] ∧ m = []) (l.length - 0) (by exact ⟨0, by omega, Nat.le_refl _, by omega, fun j h1 h2 => absurd h2 (by omega), by rw [h00]; rfl, rfl⟩) ?_); (rintro c t m ⟨k, rfl, hk0, hk, hdg, rfl, rfl⟩))
        | refine AW.block ?_
        | (refine AW.region (id := 10) ?_; ((have hkl : k < l.length := (by omega); have hv := hd10 k hk (by omega) hdg)))
        | (refine AW.region (id := 12) ?_; ((have hw : IntKind.i64.wrap (IntKind.u8.wrap (((bt l k).toNat : Int) - 48)) = ((bt l k).toNat : Int) - 48 := (by rw [wrap8 (by omega), wrap_id (by omega)]))))
        | (refine AW.region (id := 13) ?_; ((obtain rfl : k = l.length := (by omega); have hv := hd10 l.length hk (by omega) hdg)))
        | refine AW.region ?_
        | (refine AW.conds rfl (fun hc => ?_) (fun hc => ?_) <;> (try simp only [decide_eq_true_eq, decide_eq_false_iff_not, Bool.not_true, Bool.not_false, Bool.not_eq_true', Bool.not_eq_false', Int.not_lt, Int.not_le, Classical.not_not, ne_eq] at hc) <;> first | (exfalso; first | contradiction | (omega); done) | skip))
      | ((with_reducible refine ex_on ?_); (refine ⟨l.length - (k + 1), [.string (tx l), junk, junk, junk, junk, junk, .int .i64 (0), .int .i64 (((dvT l 0 (k + 1) : Nat) : Int)), .int .i64 (k + 1), junk, junk, junk, junk, junk, junk, junk, junk, junk, junk, junk, junk, junk, junk, junk, junk, junk, junk, junk, junk, junk, junk, junk, junk, junk, junk, junk, junk, junk, junk, junk, junk, junk, junk, junk, junk, junk, junk, junk, junk, junk, junk, junk, junk, junk, junk, junk, junk, junk, junk, junk, junk, junk, junk, junk, junk, junk, junk, junk, junk, junk], [], by omega, ?_, k + 1, rfl, by omega, by omega, fun j h1 h2 => (by rcases Nat.lt_or_eq_of_le (Nat.le_of_lt_succ h2) with h | h; (exact hdg j h1 h); (rw [h]; exact isD_of (by omega) (by omega))), rfl, rfl⟩; rw [show (((dvT l 0 (k + 1) : Nat) : Int)) = 10 * (dvT l 0 k : Int) + IntKind.i64.wrap (IntKind.u8.wrap (((bt l k).toNat : Int) - 48)) from (by rw [hw, hst k hk0 hkl]; omega)]; exact Wk.forget [true, false, false, false, false, false, true, true, true, false, false, false, false, false, false, false, false, false, false, false, false, false, false, false, false, false, false, false, false, false, false, false, false, false, false, false, false, false, false, false, false, false, false, false, false, false, false, false, false, false, false, false, false, false, false, false, false, false, false, false, false, false, false, false, false, false, false, false, false, false] rfl))
      | ((with_reducible refine FinJ.on ?_); ((first | refine FinJ.ret (.tmp (by conv => lhs; whnf) (.tmp (by conv => lhs; whnf) .nil)) ?_ | refine FinJ.end (.tmp (by conv => lhs; whnf) (.tmp (by conv => lhs; whnf) .nil)) ?_); first | exact num_no (n1 (by omega)) | exact num_no (n2 (by omega)) | exact num_no (n3 (by omega) (by omega) (by omega)) | exact num_no (n4 k hk0 hkl (by omega)) | exact num_yes (n5 (by omega) (by omega) (by omega) hdg))))
end Go.Proofs.YtmghmmmfdbafoaaGreatDoor
end
end

section
section
namespace Go.Proofs.YtmghmmmfdbafoaaGreatDoor
open Go Go.RowKit Go.Ab Go.Lib Go.Tx
set_option maxRecDepth 100000
set_option maxHeartbeats 2000000
attribute [local irreducible] OQ OW AL AW AD AF SW
/-- Texts in a block b; none: nothing is there. -/
def txV (b : Nat) (D : List ByteArray) : Value := if D = [] then .slice none 0 0 else .slice (some ⟨b, 0, none⟩) D.length INF
def txB (D : List ByteArray) : Option Blk := if D = [] then none else some ⟨D.map Value.string, true, 1⟩
theorem txV_nil (b : Nat) : txV b [] = .slice none 0 0 := rfl
theorem txB_nil : txB [] = none := rfl
theorem txV_ne {D : List ByteArray} (b : Nat) (h : D ≠ []) : txV b D = .slice (some ⟨b, 0, none⟩) D.length INF := if_neg h
theorem txB_ne {D : List ByteArray} (h : D ≠ []) : txB D = some ⟨D.map Value.string, true, 1⟩ := if_neg h
theorem txV_snoc (b : Nat) (D : List ByteArray) (p : ByteArray) : txV b (D ++ [p]) = .slice (some ⟨b, 0, none⟩) (D.length + 1) INF := by rw [txV_ne _ (by simp)]; simp
theorem txB_snoc (D : List ByteArray) (p : ByteArray) : txB (D ++ [p]) = some ⟨D.map Value.string ++ [.string p], true, 1⟩ := by rw [txB_ne (by simp)]; simp
theorem stx_scal (D : List ByteArray) : (D.map Value.string).all scal = true := List.all_eq_true.2 fun v hv => by obtain ⟨p, _, rfl⟩ := List.mem_map.1 hv; rfl
theorem stx_scal2 (D : List ByteArray) (p : ByteArray) : (D.map Value.string ++ [Value.string p]).all scal = true := by rw [List.all_append, stx_scal]; rfl
theorem stx_take (D : List ByteArray) (v : Value) : D.map Value.string ++ [v] = (D.map Value.string).take D.length ++ [v] := by rw [List.take_of_length_le (by simp)]
theorem stx_fin (D : List ByteArray) (p : ByteArray) : (D ++ [p]).map Value.string = (D.map Value.string).take D.length ++ [Value.string p] := by rw [List.take_of_length_le (by simp)]; simp
theorem ext_tx (l : List UInt8) (a b : Nat) : (tx l).extract a b = tx ((l.drop a).take (b - a)) := extract_mk (tx l) a b
theorem Cut_c (c0 : UInt8) (l : List UInt8) (hl : l.length ≤ 1000000) : ACalls Tryz.prog 29 [.string (tx l), .int .u8 c0.toNat] [] (.slice (some ⟨0, 0, none⟩) ((cutAt c0 l).map tx).length INF) [some ⟨((cutAt c0 l).map tx).map Value.string, true, 1⟩] := by
  have hsz : (tx l).size = l.length := rfl
  have hch : ∀ i : Int, 0 ≤ i → i < l.length → (tx l).data[i.toNat]? = some (bt l i.toNat) := fun i h0 h1 => by
    show l.toArray[i.toNat]? = some (l.getD i.toNat 0)
    rw [List.getElem?_toArray, List.getD_eq_getElem?_getD, List.getElem?_eq_getElem (by omega)]
    rfl
  have hca : ∀ a i, a ≤ i → i < l.length → (bt l i).toNat = c0.toNat → (∀ j, a ≤ j → j < i → (bt l j).toNat ≠ c0.toNat) → (cutAt c0 (l.drop a)).map tx = (tx l).extract a i :: (cutAt c0 (l.drop (i + 1))).map tx := fun a i h0 h1 h2 h3 => by
    rw [ext_tx, cut_at (c := c0) h0 h1 (UInt8.toNat.inj (show (l.getD i 0).toNat = c0.toNat from h2)) fun j h4 h5 h6 => h3 j h4 h5 (by show (l.getD j 0).toNat = c0.toNat; rw [h6])]
    rfl
  have hce : ∀ a, (∀ j, a ≤ j → j < l.length → (bt l j).toNat ≠ c0.toNat) → (cutAt c0 (l.drop a)).map tx = [(tx l).extract a (tx l).size] := fun a h => by
    rw [ext_tx, tx_size, List.take_of_length_le (by rw [List.length_drop]; exact Nat.le_refl _), cut_end fun j h4 h5 h6 => h j h4 h5 (by show (l.getD j 0).toNat = c0.toNat; rw [h6])]
    rfl
  have hk0 : (cutAt c0 (l.drop 0)).map tx = (cutAt c0 l).map tx := rfl
  have hdl : ∀ D : List ByteArray, ∀ a, D ++ (cutAt c0 (l.drop a)).map tx = (cutAt c0 l).map tx → D.length ≤ 1000000 := fun D a h => by
    have h1 := congrArg List.length h
    rw [List.length_append, List.length_map, List.length_map, cut_len c0 l] at h1
    have h2 := List.count_le_length (a := c0) (l := l)
    have h3 : 0 < (cutAt c0 (l.drop a)).length := List.length_pos_iff.2 (cut_ne _ _)
    omega
  generalize hR : (cutAt c0 l).map tx = R at *
  clear hR
  generalize hK : (fun a => (cutAt c0 (l.drop a)).map tx) = K at *
  have hK' : ∀ a, (cutAt c0 (l.drop a)).map tx = K a := fun a => congrFun hK a
  simp only [hK'] at hca hce hk0 hdl
  clear hK hK'
  refine ACalls.enter (t := [.string (tx l), .int .u8 c0.toNat, undef, undef, undef, undef, undef, undef, undef, undef, undef, undef, undef, undef, undef, undef, undef, undef, undef, undef, undef, undef, undef, undef, undef, undef, undef, undef, undef, undef, undef, undef, undef, undef]) Tryz.func29 rfl rfl fun E hE => ?_
  repeat' (first
    | with_reducible refine Then.n ?_
    | with_reducible refine Then.r ?_
    | with_reducible refine Then.x ?_
    | with_reducible refine InB.n ?_
    | with_reducible refine InB.r ?_
    | with_reducible refine InB.hit ?_
    | with_reducible refine InB.miss (by decide) ?_
    | ((with_reducible refine AL.on ?_); first
      | ((first | ((with_reducible refine AL.k_move ?_); first | (refine AL.q rfl (OQ.move (by conv => lhs; whnf)) ?_)) | ((with_reducible refine AL.k_assign ?_); first | (refine AL.q rfl (OQ.assign (by conv => lhs; whnf)) ?_)) | ((with_reducible refine AL.k_binOp ?_); first | refine AL.q rfl (OQ.lss rfl rfl) ?_ | refine AL.q rfl (OQ.eql rfl rfl) ?_ | refine AL.q rfl (OQ.addi rfl rfl (by omega)) ?_ | refine AL.q rfl (OQ.add rfl rfl) ?_) | ((with_reducible refine AL.k_call ?_); first | refine AL.q rfl (OQ.lenStr rfl Tryz.underlying9) ?_) | ((with_reducible refine AL.k_index ?_); first | refine AL.q rfl (OQ.idxStr rfl rfl Tryz.underlying9 (by omega) (hch _ (by omega) (by omega))) ?_) | refine AL.q rfl (by first | exact OQ.sliceStr (l := (a : Int)) (h := (k : Int)) rfl (by kernel_rfl) rfl rfl (by omega) (by omega) (by omega) | exact OQ.sliceStr (l := (a : Int)) (h := ((tx l).size : Int)) rfl (by kernel_rfl) rfl rfl (by omega) (by omega) (by omega)) ?_); (conv => (arg 5; try tactic => exact nrm)))
      | ((first | ((with_reducible refine AL.k_call ?_); first | refine AL.w rfl (by first | exact OW.appendNil (b := 1) (o := 0) (k := 1) (c := 1) (z := 1) (by' := 16) (zs := [.string ⟨#[]⟩]) (e := 9) rfl rfl (by kernel_rfl) (by kernel_rfl) (by kernel_rfl) rfl (by kernel_rfl) (by decide) rfl (by decide) (by decide) | exact OW.append (n := D.length) (b := 0) (bx := 1) (k := 1) (z := 1) (by' := 16) (zs := [.string ⟨#[]⟩]) (e := 9) rfl rfl (by kernel_rfl) (by kernel_rfl) (by kernel_rfl) rfl (by kernel_rfl) (by decide) rfl rfl rfl (by decide) (by simp) rfl rfl (by omega) (by omega)) ?_) | ((with_reducible refine AL.k_buildSlice ?_); first | refine AL.w rfl (OW.build1 (ty := 77) (z := .string ⟨#[]⟩) (g := false) (by kernel_rfl) (by kernel_rfl) rfl rfl ⟨rfl, rfl⟩) ?_)); (conv => (arg 5; try tactic => exact nrm)); (conv => (arg 6; try tactic => exact nrm)))
      | refine AL.nil ?_)
    | ((with_reducible refine AW.on ?_); first
      | refine AW.seq ?_
      | refine AW.skip ?_
      | refine AW.exit ?_
      | refine AW.ret ?_
      | ((refine AW.block (id := 0) ?_); (refine AW.wk (t' := [.string (tx l), .int .u8 c0.toNat, junk, junk, junk, txV 0 [], .int .i64 (((0 : Nat) : Int)), .int .i64 (((0 : Nat) : Int)), junk, junk, junk, junk, junk, junk, junk, junk, junk, junk, junk, junk, junk, junk, junk, junk, junk, junk, junk, junk, junk, junk, junk, junk, junk, junk]) (m' := [txB []]) (Wk.keep 0 [0] (Nat.le_of_eq hE) rfl rfl (by repeat (first | exact RenT.nil | refine RenT.junk ?_ | refine RenT.val (by first | rfl | with_reducible assumption | (simp only [rn3, rn2, rn1, kσ]; done)) (by first | rfl | assumption | (simp [ok3, ok2, ok1]; done)) ?_)) trivial) ?_); (refine AW.loop (fun c t' m => ∃ (k a : Nat) (D : List ByteArray), c = l.length - k ∧ a ≤ k ∧ k ≤ l.length ∧ D ++ K a = R ∧ (∀ j, a ≤ j → j < k → (bt l j).toNat ≠ c0.toNat) ∧ t' = [.string (tx l), .int .u8 c0.toNat, junk, junk, junk, txV 0 D, .int .i64 (a), .int .i64 (k), junk, junk, junk, junk, junk, junk, junk, junk, junk, junk, junk, junk, junk, junk, junk, junk, junk, junk, junk, junk, junk, junk, junk, junk, junk, junk] ∧ m = [txB D]) (l.length) (by exact ⟨0, 0, [], rfl, Nat.le_refl _, Nat.zero_le _, hk0, fun j h1 h2 => absurd h2 (by omega), rfl, rfl⟩) ?_); (rintro c t' m ⟨k, a, D, rfl, hak, hk, hD, hno, rfl, rfl⟩); (have hDl := hdl D a hD); (rcases Classical.em (D = []) with hDn | hDn); (all_goals (first | (subst hDn; rw [txV_nil, txB_nil]) | rw [txV_ne _ hDn, txB_ne hDn])))
      | refine AW.block ?_
      | (refine AW.region (id := 6) ?_; (have hkl : k < l.length := by omega))
      | (refine AW.region (id := 9) ?_; (obtain rfl : k = l.length := (by omega)); all_goals (have hq := hce a hno; rw [hq] at hD; subst hD))
      | refine AW.region ?_
      | (refine AW.conds rfl (fun hc => ?_) (fun hc => ?_) <;> (try simp only [decide_eq_true_eq, decide_eq_false_iff_not, Bool.not_true, Bool.not_false, Bool.not_eq_true', Bool.not_eq_false', Int.not_lt, Int.not_le, Classical.not_not, ne_eq] at hc) <;> first | (exfalso; first | contradiction | (first | omega | (simp_all; done)); done) | skip))
    | ((with_reducible refine ex_on ?_); first   | (refine ⟨l.length - (k + 1), [.string (tx l), .int .u8 c0.toNat, junk, junk, junk, .slice none 0 0, .int .i64 (a), .int .i64 (k + 1), junk, junk, junk, junk, junk, junk, junk, junk, junk, junk, junk, junk, junk, junk, junk, junk, junk, junk, junk, junk, junk, junk, junk, junk, junk, junk], [none], by omega, ?_, k + 1, a, [], rfl, by omega, by omega, hD, (fun j h1 h2 => by rcases Nat.lt_or_eq_of_le (Nat.le_of_lt_succ h2) with h | h; (exact hno j h1 h); (rw [h]; omega)), rfl, rfl⟩; exact Wk.keep 0 [0] (Nat.le_of_eq hE) rfl rfl (by repeat (first | exact RenT.nil | refine RenT.junk ?_ | refine RenT.val (by first | rfl | with_reducible assumption | (simp only [rn3, rn2, rn1, kσ]; done)) (by first | rfl | assumption | (simp [ok3, ok2, ok1]; done)) ?_)) trivial)   | (refine ⟨l.length - (k + 1), [.string (tx l), .int .u8 c0.toNat, junk, junk, junk, .slice (some ⟨0, 0, none⟩) D.length INF, .int .i64 (a), .int .i64 (k + 1), junk, junk, junk, junk, junk, junk, junk, junk, junk, junk, junk, junk, junk, junk, junk, junk, junk, junk, junk, junk, junk, junk, junk, junk, junk, junk], [some ⟨D.map Value.string, true, 1⟩], by omega, ?_, k + 1, a, D, rfl, by omega, by omega, hD, (fun j h1 h2 => by rcases Nat.lt_or_eq_of_le (Nat.le_of_lt_succ h2) with h | h; (exact hno j h1 h); (rw [h]; omega)), by rw [txV_ne _ hDn]; rfl, by rw [txB_ne hDn]⟩; exact Wk.keep 0 [0] (Nat.le_of_eq hE) rfl rfl (by repeat (first | exact RenT.nil | refine RenT.junk ?_ | refine RenT.val (by first | rfl | with_reducible assumption | (simp only [rn3, rn2, rn1, kσ]; done)) (by first | rfl | assumption | (simp [ok3, ok2, ok1]; done)) ?_)) ⟨⟨_, rfl, rfl, rfl, .inl ⟨rfl, stx_scal _⟩⟩, trivial⟩)   | (refine ⟨l.length - (k + 1), [.string (tx l), .int .u8 c0.toNat, junk, junk, junk, .slice (some ⟨0, 0, none⟩) ([].length + 1 : Nat) INF, .int .i64 (k + 1), .int .i64 (k + 1), junk, junk, junk, junk, junk, junk, junk, junk, junk, junk, junk, junk, junk, junk, junk, junk, junk, junk, junk, junk, junk, junk, junk, junk, junk, junk], [some ⟨[].map Value.string ++ [.string ((tx l).extract a k)], true, 1⟩], by omega, ?_, k + 1, k + 1, [] ++ [(tx l).extract a k], rfl, by omega, by omega, (by rw [← hD, hca a k hak hkl (by omega) hno]; simp), (fun j h1 h2 => absurd h2 (by omega)), by rw [txV_snoc]; rfl, by rw [txB_snoc]⟩; exact Wk.keep 0 [2] (Nat.le_of_eq hE) rfl rfl (by repeat (first | exact RenT.nil | refine RenT.junk ?_ | refine RenT.val (by first | rfl | with_reducible assumption | (simp only [rn3, rn2, rn1, kσ]; done)) (by first | rfl | assumption | (simp [ok3, ok2, ok1]; done)) ?_)) ⟨⟨_, rfl, rfl, rfl, .inl ⟨rfl, rfl⟩⟩, trivial⟩)   | (refine ⟨l.length - (k + 1), [.string (tx l), .int .u8 c0.toNat, junk, junk, junk, .slice (some ⟨0, 0, none⟩) (D.length + 1) INF, .int .i64 (k + 1), .int .i64 (k + 1), junk, junk, junk, junk, junk, junk, junk, junk, junk, junk, junk, junk, junk, junk, junk, junk, junk, junk, junk, junk, junk, junk, junk, junk, junk, junk], [some ⟨D.map Value.string ++ [.string ((tx l).extract a k)], true, 1⟩], by omega, ?_, k + 1, k + 1, D ++ [(tx l).extract a k], rfl, by omega, by omega, (by rw [← hD, hca a k hak hkl (by omega) hno]; simp), (fun j h1 h2 => absurd h2 (by omega)), by rw [txV_snoc]; rfl, by rw [txB_snoc]⟩; exact Wk.keep 0 [2] (Nat.le_of_eq hE) rfl rfl (by repeat (first | exact RenT.nil | refine RenT.junk ?_ | refine RenT.val (by first | rfl | with_reducible assumption | (simp only [rn3, rn2, rn1, kσ]; done)) (by first | rfl | assumption | (simp [ok3, ok2, ok1]; done)) ?_)) ⟨⟨_, rfl, rfl, rfl, .inl ⟨stx_take D _, stx_scal2 _ _⟩⟩, trivial⟩))
    | ((with_reducible refine FinA.on ?_); first | (refine FinA.keep 0 [2] (.inl rfl) (.tmp (by conv => lhs; whnf) .nil) ?_ rfl (Nat.le_of_eq hE) rfl rfl ⟨⟨_, rfl, rfl, rfl, .inl ⟨rfl, rfl⟩⟩, trivial⟩; rfl) | (refine FinA.keep 0 [2] (.inl rfl) (.tmp (by conv => lhs; whnf) .nil) ?_ rfl (Nat.le_of_eq hE) rfl rfl ⟨⟨_, rfl, rfl, rfl, .inl ⟨stx_fin D _, stx_scal _⟩⟩, trivial⟩; rw [List.length_append]; rfl)))
end Go.Proofs.YtmghmmmfdbafoaaGreatDoor
end
end
