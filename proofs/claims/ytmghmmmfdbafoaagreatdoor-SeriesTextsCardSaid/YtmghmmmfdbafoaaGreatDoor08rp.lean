/- Chapter 8: Parse of the program. -/
import Derived.Test.YtmghmmmfdbafoaaGreatDoor08re
import Derived.Test.YtmghmmmfdbafoaaGreatDoorLp
import Derived.Test.YtmghmmmfdbafoaaGreatDoor08sl
set_option linter.unusedSimpArgs false
set_option linter.unusedVariables false
section
namespace Go.Proofs.YtmghmmmfdbafoaaGreatDoor
open Go Go.RowKit Go.Ab Go.Sr Go.Lib Go.Tx
set_option maxRecDepth 100000
set_option maxHeartbeats 2000000
attribute [local irreducible] OQ OW AL AW AD AF SW
section
variable {N0 : Nat} {W0 : World} {m : Mem} {s f : Nat}
theorem read_hs' (L : Lw N0 W0) (l : List UInt8) (hl : l.length ≤ 1000000) {n : List UInt8} (h : rdH l = some n) {n0 : ByteArray} (hs : m.at s = some ⟨[.string n0, .slice none 0 0], true, 0⟩) :
    ACallsW N0 W0 Tryz.prog 27 [.pointer (some ⟨s, 0, none⟩), .string (tx l), .bool true] m (.bool true) (setAll m [(s, some ⟨[.string (tx n), .slice none 0 0], true, 0⟩)] ++ []) :=
  ACallsW.viaS [s] [(s, some ⟨[.string (tx n), .slice none 0 0], true, 0⟩)] [] (read_hs L l hl h n0) ⟨⟨_, hs, rfl, fun _ => rfl, .inl ⟨rfl, rfl⟩⟩, trivial⟩ (by simp) ⟨rfl, ⟨rfl, rfl, rfl, .inl ⟨rfl, rfl⟩⟩, trivial⟩ rfl rfl rfl rfl
theorem read_e0' (L : Lw N0 W0) (l : List UInt8) (hl : l.length ≤ 1000000) {e : Ep} (h : rdE l = some e) {nm : ByteArray} (hs : m.at s = some ⟨[.string nm, .slice none 0 0], true, 0⟩) :
    ACallsW N0 W0 Tryz.prog 27 [.pointer (some ⟨s, 0, none⟩), .string (tx l), .bool false] m (.bool true) (setAll m [(s, some ⟨[.string nm, .slice (some ⟨m.length, 0, none⟩) 1 INF], true, 0⟩)] ++ [some ⟨flatE [e], true, 4⟩]) := by
  obtain ⟨p0, p1, p2, p3, HS, g0, g1, g2, g3⟩ := line_words L l hl h
  exact ACallsW.viaS [s] _ _ (read_e0 HS g0 g1 g2 g3 nm) ⟨⟨_, hs, rfl, fun _ => rfl, .inl ⟨rfl, rfl⟩⟩, trivial⟩ (by simp) ⟨rfl, ⟨rfl, rfl, rfl, .inr ⟨by simp [rn1, τn], rfl⟩⟩, ⟨rfl, rfl, rfl, .inl ⟨rfl, rfl⟩⟩, trivial⟩ rfl rfl rfl rfl
theorem read_e1' (L : Lw N0 W0) (l : List UInt8) (hl : l.length ≤ 1000000) {e : Ep} (h : rdE l = some e) {nm : ByteArray} {es : List Ep} (hes : es.length ≤ 100000) (hs : m.at s = some ⟨[.string nm, .slice (some ⟨f, 0, none⟩) es.length INF], true, 0⟩) (hf : m.at f = some ⟨flatE es, true, 4⟩) (hn : [s, f].Nodup) :
    ACallsW N0 W0 Tryz.prog 27 [.pointer (some ⟨s, 0, none⟩), .string (tx l), .bool false] m (.bool true) (setAll m [(s, some ⟨[.string nm, .slice (some ⟨m.length, 0, none⟩) (es.length + 1) INF], true, 0⟩), (f, none)] ++ [some ⟨flatE (es ++ [e]), true, 4⟩]) := by
  obtain ⟨p0, p1, p2, p3, HS, g0, g1, g2, g3⟩ := line_words L l hl h
  exact ACallsW.viaS [s, f] _ _ (read_e1 HS g0 g1 g2 g3 nm es hes) ⟨⟨_, hs, rfl, fun _ => rfl, .inr ⟨by simp [rn1], rfl⟩⟩, ⟨_, hf, rfl, fun _ => rfl, .inl ⟨rfl, flatE_scal _⟩⟩, trivial⟩ hn ⟨rfl, ⟨rfl, rfl, rfl, .inr ⟨by simp [rn1, τn], rfl⟩⟩, rfl, trivial, ⟨rfl, rfl, rfl, .inl ⟨rfl, flatE_scal _⟩⟩, trivial⟩ rfl rfl rfl rfl
end
theorem Lines_q (l : ByteArray) (m : Mem) : ACalls Tryz.prog 25 [.string l] m (.func (.func 50) #[] #[.pointer (some ⟨m.length, 0, none⟩)]) (m ++ [some ⟨[.string l], true, 0⟩]) := by
  refine ACalls.viaN (m0 := []) (x := some ⟨[.string l], true, 0⟩) (v0 := .func (.func 50) #[] #[.pointer (some ⟨0, 0, none⟩)]) (args0 := [.string l]) (fun _ => 0) ?_ (fun x bk hx => by simp [Mem.at] at hx) (fun x hx => absurd hx (by simp)) (fun blk h => by cases h; exact ⟨rfl, rfl⟩) rfl rfl (by simp [rn3, rn2, rn1, τn]) rfl
  refine ACalls.enter (t := [.string l, undef, undef, undef]) Tryz.func25 rfl rfl fun E hE => ?_
  repeat' (first
    | with_reducible refine Then.n ?_
    | with_reducible refine Then.r ?_
    | with_reducible refine Then.x ?_
    | with_reducible refine InB.n ?_
    | with_reducible refine InB.r ?_
    | with_reducible refine InB.hit ?_
    | with_reducible refine InB.miss (by decide) ?_
    | ((with_reducible refine AL.on ?_); first
      | ((first | first | (refine AL.q rfl (OQ.assign (by conv => lhs; whnf)) ?_)); (conv => (arg 5; try tactic => exact nrm)))
      | ((first | refine AL.q rfl OQ.mkfn ?_); (conv => (arg 5; try tactic => exact nrm)))
      | ((first | first | (refine AL.w rfl (OW.box (by conv => lhs; whnf) (by intro r h; cases h)) ?_)); (conv => (arg 5; try tactic => exact nrm)); (conv => (arg 6; try tactic => exact nrm)))
      | refine AL.nil ?_)
    | ((with_reducible refine AW.on ?_); first
      | refine AW.seq ?_
      | refine AW.skip ?_
      | refine AW.exit ?_
      | refine AW.ret ?_
      | refine AW.block ?_
      | refine AW.region ?_
      | (refine AW.conds rfl (fun hc => ?_) (fun hc => ?_) <;> (try simp only [decide_eq_true_eq, decide_eq_false_iff_not, Bool.not_true, Bool.not_false, Bool.not_eq_true', Bool.not_eq_false', Int.not_lt, Int.not_le, Classical.not_not, ne_eq] at hc) <;> first | (exfalso; contradiction; done) | skip))
    | ((with_reducible refine FinA.on ?_); (refine FinA.keep 0 [0] (.inl rfl) (.tmp (by conv => lhs; whnf) .nil) ?_ rfl (Nat.le_of_eq hE) rfl rfl ⟨⟨_, rfl, rfl, rfl, .inl ⟨rfl, rfl⟩⟩, trivial⟩; rfl)))
theorem Parse_big {N0 : Nat} {W0 : World} (t : List UInt8) (h : 60000 < t.length) : ACallsW N0 W0 Tryz.prog 9 [.string (tx t)] [] (resP (prsP t)) (slM (prsP t).2.1) := by
  rw [prs_big h]
  have hsz : (tx t).size = t.length := rfl
  refine ACallsW.enter (t := [.string (tx t), undef, undef, undef, undef, undef, undef, undef, undef, undef, undef, undef, undef, undef, undef, undef, undef, undef, undef, undef, undef, undef, undef, undef, undef, undef, undef, undef, undef, undef, undef, undef, undef, undef, undef, undef, undef, undef, undef, undef, undef, undef, undef, undef, undef, undef]) Tryz.func9 rfl rfl fun E hE hG => ?_
  repeat' (first
    | with_reducible refine Then.n ?_
    | with_reducible refine Then.r ?_
    | with_reducible refine Then.x ?_
    | with_reducible refine InB.n ?_
    | with_reducible refine InB.r ?_
    | with_reducible refine InB.hit ?_
    | with_reducible refine InB.miss (by decide) ?_
    | ((with_reducible refine AL.on ?_); first
      | ((first | ((with_reducible refine AL.k_move ?_); first | (refine AL.q rfl (OQ.move (by conv => lhs; whnf)) ?_)) | ((with_reducible refine AL.k_call ?_); first | refine AL.q rfl (OQ.lenStr rfl Tryz.underlying9) ?_) | ((with_reducible refine AL.k_binOp ?_); first | refine AL.q rfl (OQ.gtr rfl rfl) ?_ | refine AL.q rfl (OQ.eql rfl rfl) ?_ | refine AL.q rfl (OQ.neq rfl rfl) ?_) | ((with_reducible refine AL.k_load ?_); first | (refine AL.q rfl (OQ.load1 (ty := 3) rfl (by kernel_rfl) (by conv => lhs; whnf)) ?_) | refine AL.q rfl (OQ.loadN (ty := 24) (n := 2) rfl (by kernel_rfl) (by kernel_rfl) rfl) ?_) | ((with_reducible refine AL.k_assign ?_); first | (refine AL.q rfl (OQ.assign (by conv => lhs; whnf)) ?_))); (conv => (arg 5; try tactic => exact nrm)))
      | ((first | first | refine AL.q rfl (OQ.buildS (ty := 24) (zs := [.string ⟨#[]⟩, .slice none 0 0]) (pls := [(0, 1), (1, 1)]) (by kernel_rfl) rfl (by kernel_rfl) rfl rfl rfl) ?_); (conv => (arg 5; try tactic => exact nrm)))
      | ((first | ((with_reducible refine AL.k_store ?_); first | (refine AL.w rfl (OW.store (ty := 24) (n := 2) rfl (by conv => lhs; whnf) rfl rfl (by kernel_rfl) rfl rfl (by decide) rfl (Nat.le_of_ble_eq_true rfl) (by intro r h; cases h)) ?_) | (refine AL.w rfl (OW.store (ty := 3) (n := 1) rfl (by conv => lhs; whnf) rfl rfl (by kernel_rfl) rfl rfl (by decide) rfl (Nat.le_of_ble_eq_true rfl) (by intro r h; cases h)) ?_) | (refine AL.w rfl (OW.store (ty := 27) (n := 1) rfl (by conv => lhs; whnf) rfl rfl (by kernel_rfl) rfl rfl (by decide) rfl (Nat.le_of_ble_eq_true rfl) (by intro r h; cases h)) ?_)) | ((with_reducible refine AL.k_alloc ?_); first | refine AL.w rfl (OW.alloc (ty := 24) (z := [.string ⟨#[]⟩, .slice none 0 0]) (by kernel_rfl) rfl) ?_ | refine AL.w rfl (OW.alloc (ty := 3) (z := [.int .i64 0]) (by kernel_rfl) rfl) ?_ | refine AL.w rfl (OW.alloc (ty := 27) (z := [.int .i64 0]) (by kernel_rfl) rfl) ?_)); (conv => (arg 5; try tactic => exact nrm)); (conv => (arg 6; try tactic => exact nrm)))
      | refine AL.nil ?_)
    | ((with_reducible refine AW.on ?_); first
      | refine AW.seq ?_
      | refine AW.skip ?_
      | refine AW.exit ?_
      | refine AW.ret ?_
      | refine AW.block ?_
      | refine AW.region ?_
      | (refine AW.conds rfl (fun hc => ?_) (fun hc => ?_) <;> (try simp only [decide_eq_true_eq, decide_eq_false_iff_not, Bool.not_true, Bool.not_false, Bool.not_eq_true', Bool.not_eq_false', Int.not_lt, Int.not_le, Classical.not_not, ne_eq] at hc) <;> first | (exfalso; first | contradiction | (omega); done) | skip))
    | ((with_reducible refine FinA.on ?_); (refine FinA.keep 0 [] (.inl rfl) (.cellN (n := 2) (by conv => lhs; whnf) (by kernel_rfl) (by kernel_rfl) rfl (.cell1 (by conv => lhs; whnf) (by kernel_rfl) (by conv => lhs; whnf) (.cell1 (by conv => lhs; whnf) (by kernel_rfl) (by conv => lhs; whnf) .nil))) ?_ rfl (Nat.le_of_eq hE) rfl rfl trivial; rfl)))
/-- What the rounds leave. -/
def MP (t : List UInt8) (k : Nat) (m : Mem) : Prop := ∃ nm es, RdS t k nm es ∧ m = [some ⟨[.string ⟨#[]⟩, .slice none 0 0], true, 0⟩, some ⟨[.int .i64 0], true, 0⟩, some ⟨[.int .i64 0], true, 0⟩, some ⟨[.string (tx nm), slv 5 es], true, 0⟩, some ⟨[.int .i64 k], true, 0⟩, slB es]
def MX (t : List UInt8) (k : Nat) (m : Mem) : Prop := prsP t = ([], [], k, 7) ∧ m = [some ⟨[.string ⟨#[]⟩, .slice none 0 0], true, 0⟩, some ⟨[.int .i64 k], true, 0⟩, some ⟨[.int .i64 7], true, 0⟩, none, none]
theorem own5 {a b c : Blk} (ha : a.own = true) (hb : b.own = true) (hc : c.own = true) : ∀ x blk, Mem.at [some a, some b, some c, none, none] x = some blk → blk.own = true := fun x blk h => by
  match x, h with
  | 0, h => cases h; exact ha
  | 1, h => cases h; exact hb
  | 2, h => cases h; exact hc
  | 3, h => cases h
  | 4, h => cases h
  | x + 5, h => simp [Mem.at] at h
theorem own6 {a b c d e : Blk} {f : Option Blk} (ha : a.own = true) (hb : b.own = true) (hc : c.own = true) (hd : d.own = true) (he : e.own = true) (hf : ∀ blk, f = some blk → blk.own = true) : ∀ x blk, Mem.at [some a, some b, some c, some d, some e, f] x = some blk → blk.own = true := fun x blk h => by
  match x, h with
  | 0, h => cases h; exact ha
  | 1, h => cases h; exact hb
  | 2, h => cases h; exact hc
  | 3, h => cases h; exact hd
  | 4, h => cases h; exact he
  | 5, h => exact hf blk h
  | x + 6, h => simp [Mem.at] at h
theorem slB_own (es : List Ep) : ∀ blk, slB es = some blk → blk.own = true := fun blk h => by
  unfold slB at h
  split at h
  · cases h
  · cases h
    rfl
theorem srE_nil {nm : List UInt8} : ¬ srE nm [] = 0 := fun h => by
  have := (srE_right h).1.n1
  simp at this
theorem Parse_l {N0 : Nat} {W0 : World} (L : Lw N0 W0) (t : List UInt8) (ht : t.length ≤ 1000) : ACallsW N0 W0 Tryz.prog 9 [.string (tx t)] [] (resP (prsP t)) (slM (prsP t).2.1) := by
  have hsz : (tx t).size = t.length := rfl
  refine ACallsW.enterE (t := [.string (tx t), undef, undef, undef, undef, undef, undef, undef, undef, undef, undef, undef, undef, undef, undef, undef, undef, undef, undef, undef, undef, undef, undef, undef, undef, undef, undef, undef, undef, undef, undef, undef, undef, undef, undef, undef, undef, undef, undef, undef, undef, undef, undef, undef, undef, undef]) Tryz.func9 rfl rfl fun E hE hds hG => AWT.on ?_
  repeat' (first
    | with_reducible refine AWT.sreg hds ?_
    | with_reducible refine AWT.src hds ?_
    | with_reducible refine AWT.srb hds ?_
    | with_reducible refine AWT.scond hds ?_
    | with_reducible refine Then.n ?_
    | with_reducible refine Then.r ?_
    | with_reducible refine Then.x ?_
    | with_reducible refine InB.n ?_
    | with_reducible refine InB.r ?_
    | with_reducible refine InB.hit ?_
    | with_reducible refine InB.miss (by decide) ?_
    | ((with_reducible refine AL.on ?_); first
      | ((first | ((with_reducible refine AL.k_move ?_); first | (refine AL.q rfl (OQ.move (by conv => lhs; whnf)) ?_)) | ((with_reducible refine AL.k_call ?_); first | refine AL.q rfl (OQ.lenStr rfl Tryz.underlying9) ?_) | ((with_reducible refine AL.k_binOp ?_); first | refine AL.q rfl (OQ.gtr rfl rfl) ?_ | refine AL.q rfl (OQ.eql rfl rfl) ?_ | refine AL.q rfl (OQ.neq rfl rfl) ?_) | ((with_reducible refine AL.k_load ?_); first | (refine AL.q rfl (OQ.load1 (ty := 3) rfl (by kernel_rfl) (by conv => lhs; whnf)) ?_) | refine AL.q rfl (OQ.loadN (ty := 24) (n := 2) rfl (by kernel_rfl) (by kernel_rfl) rfl) ?_) | ((with_reducible refine AL.k_assign ?_); first | (refine AL.q rfl (OQ.assign (by conv => lhs; whnf)) ?_))); (conv => (arg 5; try tactic => exact nrm)))
      | ((first | first | refine AL.q rfl (OQ.buildS (ty := 24) (zs := [.string ⟨#[]⟩, .slice none 0 0]) (pls := [(0, 1), (1, 1)]) (by kernel_rfl) rfl (by kernel_rfl) rfl rfl rfl) ?_); (conv => (arg 5; try tactic => exact nrm)))
      | ((first | ((with_reducible refine AL.k_store ?_); first | (refine AL.w rfl (OW.store (ty := 24) (n := 2) rfl (by conv => lhs; whnf) rfl rfl (by kernel_rfl) rfl rfl (by decide) rfl (Nat.le_of_ble_eq_true rfl) (by intro r h; cases h)) ?_) | (refine AL.w rfl (OW.store (ty := 3) (n := 1) rfl (by conv => lhs; whnf) rfl rfl (by kernel_rfl) rfl rfl (by decide) rfl (Nat.le_of_ble_eq_true rfl) (by intro r h; cases h)) ?_) | (refine AL.w rfl (OW.store (ty := 27) (n := 1) rfl (by conv => lhs; whnf) rfl rfl (by kernel_rfl) rfl rfl (by decide) rfl (Nat.le_of_ble_eq_true rfl) (by intro r h; cases h)) ?_)) | ((with_reducible refine AL.k_alloc ?_); first | refine AL.w rfl (OW.alloc (ty := 24) (z := [.string ⟨#[]⟩, .slice none 0 0]) (by kernel_rfl) rfl) ?_ | refine AL.w rfl (OW.alloc (ty := 3) (z := [.int .i64 0]) (by kernel_rfl) rfl) ?_ | refine AL.w rfl (OW.alloc (ty := 27) (z := [.int .i64 0]) (by kernel_rfl) rfl) ?_) | ((with_reducible refine AL.k_call ?_); first | refine AL.acall (g := 25) rfl (by kernel_rfl) rfl ((by exact Lines_q _ _)) ?_)); (conv => (arg 5; try tactic => exact nrm)); (conv => (arg 6; try tactic => exact nrm)))
      | refine AL.nil ?_)
    | ((with_reducible refine AW.on ?_); first
      | refine AW.seq ?_
      | refine AW.skip ?_
      | refine AW.exit ?_
      | refine AW.ret ?_
      | refine AW.block ?_
      | (refine AW.region (id := 2) ?_; exfalso; omega; done)
      | refine AW.region ?_
      | (refine AW.conds rfl (fun hc => ?_) (fun hc => ?_) <;> (try simp only [decide_eq_true_eq, decide_eq_false_iff_not, Bool.not_true, Bool.not_false, Bool.not_eq_true', Bool.not_eq_false', Int.not_lt, Int.not_le, Classical.not_not, ne_eq] at hc) <;> first | (exfalso; first | contradiction | (omega); done) | skip))
    | ((with_reducible refine FinP.on ?_); (first | refine FinP.ret (.cellN (n := 2) (by conv => lhs; whnf) (by kernel_rfl) (by kernel_rfl) rfl (.cell1 (by conv => lhs; whnf) (by kernel_rfl) (by conv => lhs; whnf) (.cell1 (by conv => lhs; whnf) (by kernel_rfl) (by conv => lhs; whnf) .nil))) ?_ rfl | refine FinP.end (.cellN (n := 2) (by conv => lhs; whnf) (by kernel_rfl) (by kernel_rfl) rfl (.cell1 (by conv => lhs; whnf) (by kernel_rfl) (by conv => lhs; whnf) (.cell1 (by conv => lhs; whnf) (by kernel_rfl) (by conv => lhs; whnf) .nil))) ?_ rfl); (try simp only [pack, List.drop, List.take]); all_goals (rfl)))
  refine AWX.lines (d := 7) (t0 := [junk, junk, .pointer (some ⟨0, 0, none⟩), .pointer (some ⟨1, 0, none⟩), .pointer (some ⟨2, 0, none⟩), .pointer (some ⟨3, 0, none⟩), .pointer (some ⟨4, 0, none⟩), junk, junk, junk, junk, junk, junk, junk, junk, junk, junk, junk, junk, junk, junk, junk, junk, junk, junk, junk, junk, junk, junk, junk, junk, junk, junk, junk, junk, junk, junk, junk, junk, junk, junk, junk, junk, junk, junk, junk]) (b := 5) (z := 0) (n1 := 5) hds (by omega) rfl rfl (by rw [hE]; decide) [false, false, true, true, true, true, true, false, false, false, false, false, false, false, false, false, false, false, false, false, false, false, false, false, false, false, false, false, false, false, false, false, false, false, false, false, false, false, false, false, false, false, false, false, false, false] rfl rfl (MP t) (MX t) ?_ ?_ ?_ ?_ ?_ ?_ ?_
  · rintro k m ⟨nm, es, -, rfl⟩
    exact ⟨by simp, own6 rfl rfl rfl rfl rfl (slB_own es)⟩
  · rintro k m ⟨-, rfl⟩
    exact ⟨by simp, own5 rfl rfl rfl⟩
  · exact ⟨[], [], RdS.zero t, rfl⟩
  · exact fun a lp k W K hsz hK => assign_in hsz (Nat.le_of_ble_eq_true rfl) hK
  · rintro lp k m E' hk ⟨nm, es, hR, rfl⟩ hE' hGG
    have hG := hGG _ _ hG
    have hle := hR.le
    have hlen := hR.len
    have hbs := bs_len t
    have ht' : t.length ≤ 60000 := by omega
    rcases Nat.lt_or_ge k (bsP t).length with hkb | hkb
    · have hbl := bs_sub t k hkb
      have hv : lnV t k = .string (tx ((bsP t).getD k [] ++ [10])) := by
        unfold lnV
        rw [ln_y t k hkb]
        rfl
      have HC := fun m => L.cutY m ((bsP t).getD k []) (by omega)
      rw [hv]
      change AWR _ _ _ _ [junk, junk, .pointer (some ⟨0, 0, none⟩), .pointer (some ⟨1, 0, none⟩), .pointer (some ⟨2, 0, none⟩), .pointer (some ⟨3, 0, none⟩), .pointer (some ⟨4, 0, none⟩), .string (tx ((bsP t).getD k [] ++ [10])), junk, junk, junk, junk, junk, junk, junk, junk, junk, .string (tx ((bsP t).getD k [] ++ [10])), junk, junk, junk, junk, junk, junk, junk, junk, junk, junk, junk, junk, junk, junk, junk, junk, junk, junk, junk, junk, junk, junk, junk, junk, junk, junk, junk, junk] _ _
      rcases Nat.eq_zero_or_pos k with h0 | h0
      · subst h0
        have hes := hR.z (by omega)
        subst hes
        rw [slv_nil, slB_nil]
        cases hr : rdH ((bsP t).getD 0 []) with
        | none =>
          have HR := fun p m => (PCallsW.junk (args' := [.pointer (some ⟨p, 0, none⟩), .string (tx ((bsP t).getD 0 [])), .bool true]) (read_hn L ((bsP t).getD 0 []) (by omega) hr) rfl ⟨.inl rfl, .inr ⟨rfl, rfl⟩, .inr ⟨rfl, rfl⟩, trivial⟩ m).acalls
          have hp := prs_none ht' (hR.headNo hkb hr)
          generalize (bsP t).getD 0 [] = b at *
          clear hr hv
          repeat' (first
            | with_reducible refine Then.n ?_
            | with_reducible refine Then.r ?_
            | with_reducible refine Then.x ?_
            | with_reducible refine InB.n ?_
            | with_reducible refine InB.r ?_
            | with_reducible refine InB.hit ?_
            | with_reducible refine InB.miss (by decide) ?_
            | ((with_reducible refine AL.on ?_); first
              | (refine AL.gd rfl ?_; first | (refine AL.gskip rfl rfl ?_; (conv => (arg 5; try tactic => exact nrm))) | (refine AL.gs1 rfl rfl (fun hc => ?_) (fun hc => ?_) <;> (try simp only [decide_eq_true_eq, decide_eq_false_iff_not, Bool.not_true, Bool.not_false, Bool.not_eq_true', Bool.not_eq_false', Int.not_lt, Int.not_le, Classical.not_not, ne_eq] at hc) <;> first | (exfalso; first | contradiction | (first | omega | (simp at hc; done)); done) | (conv => (arg 5; try tactic => exact nrm))) | (refine AL.gs0 rfl rfl (fun hc => ?_) (fun hc => ?_) <;> (try simp only [decide_eq_true_eq, decide_eq_false_iff_not, Bool.not_true, Bool.not_false, Bool.not_eq_true', Bool.not_eq_false', Int.not_lt, Int.not_le, Classical.not_not, ne_eq] at hc) <;> first | (exfalso; first | contradiction | (first | omega | (simp at hc; done)); done) | (conv => (arg 5; try tactic => exact nrm))))
              | ((first | ((with_reducible refine AL.k_move ?_); first | (refine AL.q rfl (OQ.move (by conv => lhs; whnf)) ?_)) | ((with_reducible refine AL.k_load ?_); first | (refine AL.q rfl (OQ.load1 (ty := 3) rfl (by kernel_rfl) (by conv => lhs; whnf)) ?_)) | ((with_reducible refine AL.k_binOp ?_); first | refine AL.q rfl (OQ.addi rfl rfl (by omega)) ?_ | refine AL.q rfl (OQ.add rfl rfl) ?_ | refine AL.q rfl (OQ.eql rfl rfl) ?_) | ((with_reducible refine AL.k_extract ?_); first | refine AL.q rfl (OQ.extract rfl rfl) ?_) | ((with_reducible refine AL.k_assign ?_); first | (refine AL.q rfl (OQ.assign (by conv => lhs; whnf)) ?_)) | ((with_reducible refine AL.k_unOp ?_); first | refine AL.q rfl (OQ.not rfl) ?_) | ((with_reducible refine AL.k_pick ?_); first | (refine AL.q rfl (OQ.pickT rfl (by with_reducible rfl) (by conv => lhs; whnf)) ?_) | (refine AL.q rfl (OQ.pickF rfl (by with_reducible rfl) (by conv => lhs; whnf)) ?_))); (conv => (arg 5; try tactic => exact nrm)))
              | ((first | first | refine AL.pcall (g := 26) rfl (by kernel_rfl) rfl ((by exact HC _)) ?_); (conv => (arg 5; try tactic => exact nrm)))
              | ((first | ((with_reducible refine AL.k_store ?_); first | (refine AL.w rfl (OW.store (ty := 3) (n := 1) rfl (by conv => lhs; whnf) rfl rfl (by kernel_rfl) rfl rfl (by decide) rfl (Nat.le_of_ble_eq_true rfl) (by intro r h; cases h)) ?_) | (refine AL.w rfl (OW.store (ty := 27) (n := 1) rfl (by conv => lhs; whnf) rfl rfl (by kernel_rfl) rfl rfl (by decide) rfl (Nat.le_of_ble_eq_true rfl) (by intro r h; cases h)) ?_)) | ((with_reducible refine AL.k_call ?_); first | refine AL.acallW hG (g := 27) rfl (by kernel_rfl) rfl ((by exact HR _ _)) ?_)); (conv => (arg 5; try tactic => exact nrm)); (conv => (arg 6; try tactic => exact nrm)))
              | (refine AL.bs rfl (fun hc => ?_) (fun hc => ?_) <;> (fail_if_success (with_reducible exact lit_no hc)) <;> (try simp only [decide_eq_true_eq, decide_eq_false_iff_not, Bool.not_true, Bool.not_false, Bool.not_eq_true', Bool.not_eq_false', Int.not_lt, Int.not_le, Classical.not_not, ne_eq] at hc) <;> first | (exfalso; first | contradiction | (first | omega | (simp at hc; done)); done) | (conv => (arg 5; try tactic => exact nrm)))
              | refine AL.nil ?_)
            | ((with_reducible refine AWR.on ?_); first
              | refine AWR.seq ?_
              | refine AWR.skip ?_
              | refine AWR.exit ?_
              | refine AWR.ret ?_
              | refine AWR.block ?_
              | (refine AWR.drawF (id := 10) 3 #[0, 0, 1, 7, 15] (by kernel_rfl) (by kernel_rfl) (by kernel_rfl) ?_; (conv => (arg 8; simp only [List.take_succ_cons, List.take_zero])))
              | refine AWR.region (by kernel_rfl) ?_
              | (refine AWR.conds rfl (fun hc => ?_) (fun hc => ?_) <;> (try simp only [decide_eq_true_eq, decide_eq_false_iff_not, Bool.not_true, Bool.not_false, Bool.not_eq_true', Bool.not_eq_false', Int.not_lt, Int.not_le, Classical.not_not, ne_eq] at hc) <;> first | (exfalso; first | contradiction | (first | omega | (simp at hc; done)); done) | skip))
            | ((with_reducible refine AF.on ?_); first
              | ((first | ((with_reducible refine AF.k_load ?_); first | (refine AF.ql rfl (SW.q (OQ.load1 (ty := 3) rfl (by kernel_rfl) (by conv => lhs; whnf)) rfl) ?_)) | ((with_reducible refine AF.k_build ?_); first | refine AF.q 0 (SW.q (OQ.buildS (ty := 24) (zs := [.string ⟨#[]⟩, .slice none 0 0]) (pls := [(0, 1), (1, 1)]) (by kernel_rfl) rfl (by kernel_rfl) rfl rfl rfl) rfl) ?_)); (conv => (arg 9; try tactic => exact nrmF)); (conv => (arg 11; try simp only [List.nil_append, List.cons_append])))
              | ((first | first | (refine AF.sl rfl (SW.w (OW.store (ty := 24) (n := 2) rfl (by conv => lhs; whnf) rfl rfl (by kernel_rfl) rfl rfl (by decide) rfl (Nat.le_of_ble_eq_true rfl) (by intro r h; cases h)) rfl) rfl ?_)); (conv => (arg 9; try tactic => exact nrmF)); (conv => (arg 11; try simp only [List.nil_append, List.cons_append])); (conv => (arg 10; try tactic => exact nrmF)))
              | (refine AF.nil ?_ (by kernel_rfl); (conv => (arg 4; simp only [List.drop_succ_cons, List.drop_zero, List.drop_nil]))))
            | ((with_reducible refine RP.on ?_); exact RP.r (t' := [junk, junk, junk, junk, junk, junk, junk, junk, junk, junk, junk, junk, junk, junk, junk, junk, junk, junk, junk, junk, junk, junk, junk, junk, junk, junk, junk, junk, junk, junk, junk, junk, junk, junk, junk, junk, junk, junk, junk, junk, junk, junk, junk, junk, junk, junk]) (m' := [some ⟨[.string ⟨#[]⟩, .slice none 0 0], true, 0⟩, some ⟨[.int .i64 ((0 + 1 : Nat) : Int)], true, 0⟩, some ⟨[.int .i64 7], true, 0⟩, none, none]) (Wk.keep 5 [] (Nat.le_of_eq hE') rfl rfl (by repeat (first | exact RenT.nil | refine RenT.junk ?_ | refine RenT.val (by first | rfl | with_reducible assumption | (simp only [rn3, rn2, rn1, kσ]; done)) (by first | rfl | assumption | (simp [ok3, ok2, ok1]; done)) ?_)) ⟨⟨_, rfl, rfl, rfl, .inl ⟨rfl, rfl⟩⟩, ⟨_, rfl, rfl, rfl, .inl ⟨rfl, rfl⟩⟩, ⟨_, rfl, rfl, rfl, .inl ⟨rfl, rfl⟩⟩, trivial⟩) ⟨hp, rfl⟩))
        | some n =>
          have HR := fun (m : Mem) (s : Nat) (n0 : ByteArray) hs => read_hs' (m := m) (s := s) (n0 := n0) L ((bsP t).getD 0 []) (by omega) hr hs
          have hR' := hR.head hkb hr
          generalize (bsP t).getD 0 [] = b at *
          clear hr hv
          repeat' (first
            | with_reducible refine Then.n ?_
            | with_reducible refine Then.r ?_
            | with_reducible refine Then.x ?_
            | with_reducible refine InB.n ?_
            | with_reducible refine InB.r ?_
            | with_reducible refine InB.hit ?_
            | with_reducible refine InB.miss (by decide) ?_
            | ((with_reducible refine AL.on ?_); first
              | (refine AL.gd rfl ?_; first | (refine AL.gskip rfl rfl ?_; (conv => (arg 5; try tactic => exact nrm))) | (refine AL.gs1 rfl rfl (fun hc => ?_) (fun hc => ?_) <;> (try simp only [decide_eq_true_eq, decide_eq_false_iff_not, Bool.not_true, Bool.not_false, Bool.not_eq_true', Bool.not_eq_false', Int.not_lt, Int.not_le, Classical.not_not, ne_eq] at hc) <;> first | (exfalso; first | contradiction | (first | omega | (simp at hc; done)); done) | (conv => (arg 5; try tactic => exact nrm))) | (refine AL.gs0 rfl rfl (fun hc => ?_) (fun hc => ?_) <;> (try simp only [decide_eq_true_eq, decide_eq_false_iff_not, Bool.not_true, Bool.not_false, Bool.not_eq_true', Bool.not_eq_false', Int.not_lt, Int.not_le, Classical.not_not, ne_eq] at hc) <;> first | (exfalso; first | contradiction | (first | omega | (simp at hc; done)); done) | (conv => (arg 5; try tactic => exact nrm))))
              | ((first | ((with_reducible refine AL.k_move ?_); first | (refine AL.q rfl (OQ.move (by conv => lhs; whnf)) ?_)) | ((with_reducible refine AL.k_load ?_); first | (refine AL.q rfl (OQ.load1 (ty := 3) rfl (by kernel_rfl) (by conv => lhs; whnf)) ?_)) | ((with_reducible refine AL.k_binOp ?_); first | refine AL.q rfl (OQ.addi rfl rfl (by omega)) ?_ | refine AL.q rfl (OQ.add rfl rfl) ?_ | refine AL.q rfl (OQ.eql rfl rfl) ?_) | ((with_reducible refine AL.k_extract ?_); first | refine AL.q rfl (OQ.extract rfl rfl) ?_) | ((with_reducible refine AL.k_assign ?_); first | (refine AL.q rfl (OQ.assign (by conv => lhs; whnf)) ?_)) | ((with_reducible refine AL.k_unOp ?_); first | refine AL.q rfl (OQ.not rfl) ?_) | ((with_reducible refine AL.k_pick ?_); first | (refine AL.q rfl (OQ.pickT rfl (by with_reducible rfl) (by conv => lhs; whnf)) ?_) | (refine AL.q rfl (OQ.pickF rfl (by with_reducible rfl) (by conv => lhs; whnf)) ?_))); (conv => (arg 5; try tactic => exact nrm)))
              | ((first | first | refine AL.pcall (g := 26) rfl (by kernel_rfl) rfl ((by exact HC _)) ?_); (conv => (arg 5; try tactic => exact nrm)))
              | ((first | ((with_reducible refine AL.k_store ?_); first | (refine AL.w rfl (OW.store (ty := 3) (n := 1) rfl (by conv => lhs; whnf) rfl rfl (by kernel_rfl) rfl rfl (by decide) rfl (Nat.le_of_ble_eq_true rfl) (by intro r h; cases h)) ?_) | (refine AL.w rfl (OW.store (ty := 27) (n := 1) rfl (by conv => lhs; whnf) rfl rfl (by kernel_rfl) rfl rfl (by decide) rfl (Nat.le_of_ble_eq_true rfl) (by intro r h; cases h)) ?_)) | ((with_reducible refine AL.k_call ?_); first | refine AL.acallW hG (g := 27) rfl (by kernel_rfl) rfl ((by exact HR _ _ _ rfl)) ?_)); (conv => (arg 5; try tactic => exact nrm)); (conv => (arg 6; try tactic => exact nrm)))
              | (refine AL.bs rfl (fun hc => ?_) (fun hc => ?_) <;> (fail_if_success (with_reducible exact lit_no hc)) <;> (try simp only [decide_eq_true_eq, decide_eq_false_iff_not, Bool.not_true, Bool.not_false, Bool.not_eq_true', Bool.not_eq_false', Int.not_lt, Int.not_le, Classical.not_not, ne_eq] at hc) <;> first | (exfalso; first | contradiction | (first | omega | (simp at hc; done)); done) | (conv => (arg 5; try tactic => exact nrm)))
              | refine AL.nil ?_)
            | ((with_reducible refine AWR.on ?_); first
              | refine AWR.seq ?_
              | refine AWR.skip ?_
              | refine AWR.exit ?_
              | refine AWR.ret ?_
              | refine AWR.block ?_
              | (refine AWR.drawF (id := 10) 3 #[0, 0, 1, 7, 15] (by kernel_rfl) (by kernel_rfl) (by kernel_rfl) ?_; (conv => (arg 8; simp only [List.take_succ_cons, List.take_zero])))
              | refine AWR.region (by kernel_rfl) ?_
              | (refine AWR.conds rfl (fun hc => ?_) (fun hc => ?_) <;> (try simp only [decide_eq_true_eq, decide_eq_false_iff_not, Bool.not_true, Bool.not_false, Bool.not_eq_true', Bool.not_eq_false', Int.not_lt, Int.not_le, Classical.not_not, ne_eq] at hc) <;> first | (exfalso; first | contradiction | (first | omega | (simp at hc; done)); done) | skip))
            | ((with_reducible refine AF.on ?_); first
              | ((first | ((with_reducible refine AF.k_load ?_); first | (refine AF.ql rfl (SW.q (OQ.load1 (ty := 3) rfl (by kernel_rfl) (by conv => lhs; whnf)) rfl) ?_)) | ((with_reducible refine AF.k_build ?_); first | refine AF.q 0 (SW.q (OQ.buildS (ty := 24) (zs := [.string ⟨#[]⟩, .slice none 0 0]) (pls := [(0, 1), (1, 1)]) (by kernel_rfl) rfl (by kernel_rfl) rfl rfl rfl) rfl) ?_)); (conv => (arg 9; try tactic => exact nrmF)); (conv => (arg 11; try simp only [List.nil_append, List.cons_append])))
              | ((first | first | (refine AF.sl rfl (SW.w (OW.store (ty := 24) (n := 2) rfl (by conv => lhs; whnf) rfl rfl (by kernel_rfl) rfl rfl (by decide) rfl (Nat.le_of_ble_eq_true rfl) (by intro r h; cases h)) rfl) rfl ?_)); (conv => (arg 9; try tactic => exact nrmF)); (conv => (arg 11; try simp only [List.nil_append, List.cons_append])); (conv => (arg 10; try tactic => exact nrmF)))
              | (refine AF.nil ?_ (by kernel_rfl); (conv => (arg 4; simp only [List.drop_succ_cons, List.drop_zero, List.drop_nil]))))
            | ((with_reducible refine RP.on ?_); exact RP.n (t' := [junk, junk, junk, junk, junk, junk, junk, junk, junk, junk, junk, junk, junk, junk, junk, junk, junk, junk, junk, junk, junk, junk, junk, junk, junk, junk, junk, junk, junk, junk, junk, junk, junk, junk, junk, junk, junk, junk, junk, junk, junk, junk, junk, junk, junk, junk]) (m' := [some ⟨[.string ⟨#[]⟩, .slice none 0 0], true, 0⟩, some ⟨[.int .i64 0], true, 0⟩, some ⟨[.int .i64 0], true, 0⟩, some ⟨[.string (tx n), .slice none 0 0], true, 0⟩, some ⟨[.int .i64 ((0 + 1 : Nat) : Int)], true, 0⟩, none]) (Wk.keep 5 [5] (Nat.le_of_eq hE') rfl rfl (by repeat (first | exact RenT.nil | refine RenT.junk ?_ | refine RenT.val (by first | rfl | with_reducible assumption | (simp only [rn3, rn2, rn1, kσ]; done)) (by first | rfl | assumption | (simp [ok3, ok2, ok1]; done)) ?_)) ⟨⟨_, rfl, rfl, rfl, .inl ⟨rfl, rfl⟩⟩, ⟨_, rfl, rfl, rfl, .inl ⟨rfl, rfl⟩⟩, ⟨_, rfl, rfl, rfl, .inl ⟨rfl, rfl⟩⟩, ⟨_, rfl, rfl, rfl, .inl ⟨rfl, rfl⟩⟩, ⟨_, rfl, rfl, rfl, .inl ⟨rfl, rfl⟩⟩, trivial⟩) ⟨n, [], hR', rfl⟩))
      · have hf : decide ((k : Int) + 1 = 1) = false := decide_eq_false (by omega)
        cases hr : rdE ((bsP t).getD k []) with
        | none =>
          have HR := fun p m => (PCallsW.junk (args' := [.pointer (some ⟨p, 0, none⟩), .string (tx ((bsP t).getD k [])), .bool false]) (read_en L ((bsP t).getD k []) (by omega) hr) rfl ⟨.inl rfl, .inr ⟨rfl, rfl⟩, .inr ⟨rfl, rfl⟩, trivial⟩ m).acalls
          rw [← hf] at HR
          have hp := prs_none ht' (hR.nextNo h0 hkb hr)
          generalize (bsP t).getD k [] = b at *
          clear hr hv
          generalize slv 5 es = sv
          have hso := slB_own es
          generalize slB es = sb at *
          repeat' (first
            | with_reducible refine Then.n ?_
            | with_reducible refine Then.r ?_
            | with_reducible refine Then.x ?_
            | with_reducible refine InB.n ?_
            | with_reducible refine InB.r ?_
            | with_reducible refine InB.hit ?_
            | with_reducible refine InB.miss (by decide) ?_
            | ((with_reducible refine AL.on ?_); first
              | (refine AL.gd rfl ?_; first | (refine AL.gskip rfl rfl ?_; (conv => (arg 5; try tactic => exact nrm))) | (refine AL.gs1 rfl rfl (fun hc => ?_) (fun hc => ?_) <;> (try simp only [decide_eq_true_eq, decide_eq_false_iff_not, Bool.not_true, Bool.not_false, Bool.not_eq_true', Bool.not_eq_false', Int.not_lt, Int.not_le, Classical.not_not, ne_eq] at hc) <;> first | (exfalso; first | contradiction | (first | omega | (simp at hc; done)); done) | (conv => (arg 5; try tactic => exact nrm))) | (refine AL.gs0 rfl rfl (fun hc => ?_) (fun hc => ?_) <;> (try simp only [decide_eq_true_eq, decide_eq_false_iff_not, Bool.not_true, Bool.not_false, Bool.not_eq_true', Bool.not_eq_false', Int.not_lt, Int.not_le, Classical.not_not, ne_eq] at hc) <;> first | (exfalso; first | contradiction | (first | omega | (simp at hc; done)); done) | (conv => (arg 5; try tactic => exact nrm))))
              | ((first | ((with_reducible refine AL.k_move ?_); first | (refine AL.q rfl (OQ.move (by conv => lhs; whnf)) ?_)) | ((with_reducible refine AL.k_load ?_); first | (refine AL.q rfl (OQ.load1 (ty := 3) rfl (by kernel_rfl) (by conv => lhs; whnf)) ?_)) | ((with_reducible refine AL.k_binOp ?_); first | refine AL.q rfl (OQ.addi rfl rfl (by omega)) ?_ | refine AL.q rfl (OQ.add rfl rfl) ?_ | refine AL.q rfl (OQ.eql rfl rfl) ?_) | ((with_reducible refine AL.k_extract ?_); first | refine AL.q rfl (OQ.extract rfl rfl) ?_) | ((with_reducible refine AL.k_assign ?_); first | (refine AL.q rfl (OQ.assign (by conv => lhs; whnf)) ?_)) | ((with_reducible refine AL.k_unOp ?_); first | refine AL.q rfl (OQ.not rfl) ?_) | ((with_reducible refine AL.k_pick ?_); first | (refine AL.q rfl (OQ.pickT rfl (by with_reducible rfl) (by conv => lhs; whnf)) ?_) | (refine AL.q rfl (OQ.pickF rfl (by with_reducible rfl) (by conv => lhs; whnf)) ?_))); (conv => (arg 5; try tactic => exact nrm)))
              | ((first | first | refine AL.pcall (g := 26) rfl (by kernel_rfl) rfl ((by exact HC _)) ?_); (conv => (arg 5; try tactic => exact nrm)))
              | ((first | ((with_reducible refine AL.k_store ?_); first | (refine AL.w rfl (OW.store (ty := 3) (n := 1) rfl (by conv => lhs; whnf) rfl rfl (by kernel_rfl) rfl rfl (by decide) rfl (Nat.le_of_ble_eq_true rfl) (by intro r h; cases h)) ?_) | (refine AL.w rfl (OW.store (ty := 27) (n := 1) rfl (by conv => lhs; whnf) rfl rfl (by kernel_rfl) rfl rfl (by decide) rfl (Nat.le_of_ble_eq_true rfl) (by intro r h; cases h)) ?_)) | ((with_reducible refine AL.k_call ?_); first | refine AL.acallW hG (g := 27) rfl (by kernel_rfl) rfl ((by exact HR _ _)) ?_)); (conv => (arg 5; try tactic => exact nrm)); (conv => (arg 6; try tactic => exact nrm)))
              | (refine AL.bs rfl (fun hc => ?_) (fun hc => ?_) <;> (fail_if_success (with_reducible exact lit_no hc)) <;> (try simp only [decide_eq_true_eq, decide_eq_false_iff_not, Bool.not_true, Bool.not_false, Bool.not_eq_true', Bool.not_eq_false', Int.not_lt, Int.not_le, Classical.not_not, ne_eq] at hc) <;> first | (exfalso; first | contradiction | (first | omega | (simp at hc; done)); done) | (conv => (arg 5; try tactic => exact nrm)))
              | refine AL.nil ?_)
            | ((with_reducible refine AWR.on ?_); first
              | refine AWR.seq ?_
              | refine AWR.skip ?_
              | refine AWR.exit ?_
              | refine AWR.ret ?_
              | refine AWR.block ?_
              | (refine AWR.drawF (id := 10) 3 #[0, 0, 1, 7, 15] (by kernel_rfl) (by kernel_rfl) (by kernel_rfl) ?_; (conv => (arg 8; simp only [List.take_succ_cons, List.take_zero])))
              | refine AWR.region (by kernel_rfl) ?_
              | (refine AWR.conds rfl (fun hc => ?_) (fun hc => ?_) <;> (try simp only [decide_eq_true_eq, decide_eq_false_iff_not, Bool.not_true, Bool.not_false, Bool.not_eq_true', Bool.not_eq_false', Int.not_lt, Int.not_le, Classical.not_not, ne_eq] at hc) <;> first | (exfalso; first | contradiction | (first | omega | (simp at hc; done)); done) | skip))
            | ((with_reducible refine AF.on ?_); first
              | ((first | ((with_reducible refine AF.k_load ?_); first | (refine AF.ql rfl (SW.q (OQ.load1 (ty := 3) rfl (by kernel_rfl) (by conv => lhs; whnf)) rfl) ?_)) | ((with_reducible refine AF.k_build ?_); first | refine AF.q 0 (SW.q (OQ.buildS (ty := 24) (zs := [.string ⟨#[]⟩, .slice none 0 0]) (pls := [(0, 1), (1, 1)]) (by kernel_rfl) rfl (by kernel_rfl) rfl rfl rfl) rfl) ?_)); (conv => (arg 9; try tactic => exact nrmF)); (conv => (arg 11; try simp only [List.nil_append, List.cons_append])))
              | ((first | first | (refine AF.sl rfl (SW.w (OW.store (ty := 24) (n := 2) rfl (by conv => lhs; whnf) rfl rfl (by kernel_rfl) rfl rfl (by decide) rfl (Nat.le_of_ble_eq_true rfl) (by intro r h; cases h)) rfl) rfl ?_)); (conv => (arg 9; try tactic => exact nrmF)); (conv => (arg 11; try simp only [List.nil_append, List.cons_append])); (conv => (arg 10; try tactic => exact nrmF)))
              | (refine AF.nil ?_ (by kernel_rfl); (conv => (arg 4; simp only [List.drop_succ_cons, List.drop_zero, List.drop_nil]))))
            | ((with_reducible refine RP.on ?_); exact RP.r (t' := [junk, junk, junk, junk, junk, junk, junk, junk, junk, junk, junk, junk, junk, junk, junk, junk, junk, junk, junk, junk, junk, junk, junk, junk, junk, junk, junk, junk, junk, junk, junk, junk, junk, junk, junk, junk, junk, junk, junk, junk, junk, junk, junk, junk, junk, junk]) (m' := [some ⟨[.string ⟨#[]⟩, .slice none 0 0], true, 0⟩, some ⟨[.int .i64 ((k + 1 : Nat) : Int)], true, 0⟩, some ⟨[.int .i64 7], true, 0⟩, none, none]) (Wk.keep 5 [] (Nat.le_of_eq hE') rfl rfl (by repeat (first | exact RenT.nil | refine RenT.junk ?_ | refine RenT.val (by first | rfl | with_reducible assumption | (simp only [rn3, rn2, rn1, kσ]; done)) (by first | rfl | assumption | (simp [ok3, ok2, ok1]; done)) ?_)) ⟨⟨_, rfl, rfl, rfl, .inl ⟨rfl, rfl⟩⟩, ⟨_, rfl, rfl, rfl, .inl ⟨rfl, rfl⟩⟩, ⟨_, rfl, rfl, rfl, .inl ⟨rfl, rfl⟩⟩, trivial⟩) ⟨hp, rfl⟩))
        | some e =>
          have hR' := hR.next h0 hkb hr
          rcases Classical.em (es = []) with hes | hes
          · subst hes
            rw [slv_nil, slB_nil]
            have HR := fun (m : Mem) (s : Nat) (n0 : ByteArray) hs => read_e0' (m := m) (s := s) (nm := n0) L ((bsP t).getD k []) (by omega) hr hs
            rw [← hf] at HR
            generalize (bsP t).getD k [] = b at *
            clear hr hv
            repeat' (first
              | with_reducible refine Then.n ?_
              | with_reducible refine Then.r ?_
              | with_reducible refine Then.x ?_
              | with_reducible refine InB.n ?_
              | with_reducible refine InB.r ?_
              | with_reducible refine InB.hit ?_
              | with_reducible refine InB.miss (by decide) ?_
              | ((with_reducible refine AL.on ?_); first
                | (refine AL.gd rfl ?_; first | (refine AL.gskip rfl rfl ?_; (conv => (arg 5; try tactic => exact nrm))) | (refine AL.gs1 rfl rfl (fun hc => ?_) (fun hc => ?_) <;> (try simp only [decide_eq_true_eq, decide_eq_false_iff_not, Bool.not_true, Bool.not_false, Bool.not_eq_true', Bool.not_eq_false', Int.not_lt, Int.not_le, Classical.not_not, ne_eq] at hc) <;> first | (exfalso; first | contradiction | (first | omega | (simp at hc; done)); done) | (conv => (arg 5; try tactic => exact nrm))) | (refine AL.gs0 rfl rfl (fun hc => ?_) (fun hc => ?_) <;> (try simp only [decide_eq_true_eq, decide_eq_false_iff_not, Bool.not_true, Bool.not_false, Bool.not_eq_true', Bool.not_eq_false', Int.not_lt, Int.not_le, Classical.not_not, ne_eq] at hc) <;> first | (exfalso; first | contradiction | (first | omega | (simp at hc; done)); done) | (conv => (arg 5; try tactic => exact nrm))))
                | ((first | ((with_reducible refine AL.k_move ?_); first | (refine AL.q rfl (OQ.move (by conv => lhs; whnf)) ?_)) | ((with_reducible refine AL.k_load ?_); first | (refine AL.q rfl (OQ.load1 (ty := 3) rfl (by kernel_rfl) (by conv => lhs; whnf)) ?_)) | ((with_reducible refine AL.k_binOp ?_); first | refine AL.q rfl (OQ.addi rfl rfl (by omega)) ?_ | refine AL.q rfl (OQ.add rfl rfl) ?_ | refine AL.q rfl (OQ.eql rfl rfl) ?_) | ((with_reducible refine AL.k_extract ?_); first | refine AL.q rfl (OQ.extract rfl rfl) ?_) | ((with_reducible refine AL.k_assign ?_); first | (refine AL.q rfl (OQ.assign (by conv => lhs; whnf)) ?_)) | ((with_reducible refine AL.k_unOp ?_); first | refine AL.q rfl (OQ.not rfl) ?_) | ((with_reducible refine AL.k_pick ?_); first | (refine AL.q rfl (OQ.pickT rfl (by with_reducible rfl) (by conv => lhs; whnf)) ?_) | (refine AL.q rfl (OQ.pickF rfl (by with_reducible rfl) (by conv => lhs; whnf)) ?_))); (conv => (arg 5; try tactic => exact nrm)))
                | ((first | first | refine AL.pcall (g := 26) rfl (by kernel_rfl) rfl ((by exact HC _)) ?_); (conv => (arg 5; try tactic => exact nrm)))
                | ((first | ((with_reducible refine AL.k_store ?_); first | (refine AL.w rfl (OW.store (ty := 3) (n := 1) rfl (by conv => lhs; whnf) rfl rfl (by kernel_rfl) rfl rfl (by decide) rfl (Nat.le_of_ble_eq_true rfl) (by intro r h; cases h)) ?_) | (refine AL.w rfl (OW.store (ty := 27) (n := 1) rfl (by conv => lhs; whnf) rfl rfl (by kernel_rfl) rfl rfl (by decide) rfl (Nat.le_of_ble_eq_true rfl) (by intro r h; cases h)) ?_)) | ((with_reducible refine AL.k_call ?_); first | refine AL.acallW hG (g := 27) rfl (by kernel_rfl) rfl ((by exact HR _ _ _ rfl)) ?_)); (conv => (arg 5; try tactic => exact nrm)); (conv => (arg 6; try tactic => exact nrm)))
                | (refine AL.bs rfl (fun hc => ?_) (fun hc => ?_) <;> (fail_if_success (with_reducible exact lit_no hc)) <;> (try simp only [decide_eq_true_eq, decide_eq_false_iff_not, Bool.not_true, Bool.not_false, Bool.not_eq_true', Bool.not_eq_false', Int.not_lt, Int.not_le, Classical.not_not, ne_eq] at hc) <;> first | (exfalso; first | contradiction | (first | omega | (simp at hc; done)); done) | (conv => (arg 5; try tactic => exact nrm)))
                | refine AL.nil ?_)
              | ((with_reducible refine AWR.on ?_); first
                | refine AWR.seq ?_
                | refine AWR.skip ?_
                | refine AWR.exit ?_
                | refine AWR.ret ?_
                | refine AWR.block ?_
                | (refine AWR.drawF (id := 10) 3 #[0, 0, 1, 7, 15] (by kernel_rfl) (by kernel_rfl) (by kernel_rfl) ?_; (conv => (arg 8; simp only [List.take_succ_cons, List.take_zero])))
                | refine AWR.region (by kernel_rfl) ?_
                | (refine AWR.conds rfl (fun hc => ?_) (fun hc => ?_) <;> (try simp only [decide_eq_true_eq, decide_eq_false_iff_not, Bool.not_true, Bool.not_false, Bool.not_eq_true', Bool.not_eq_false', Int.not_lt, Int.not_le, Classical.not_not, ne_eq] at hc) <;> first | (exfalso; first | contradiction | (first | omega | (simp at hc; done)); done) | skip))
              | ((with_reducible refine AF.on ?_); first
                | ((first | ((with_reducible refine AF.k_load ?_); first | (refine AF.ql rfl (SW.q (OQ.load1 (ty := 3) rfl (by kernel_rfl) (by conv => lhs; whnf)) rfl) ?_)) | ((with_reducible refine AF.k_build ?_); first | refine AF.q 0 (SW.q (OQ.buildS (ty := 24) (zs := [.string ⟨#[]⟩, .slice none 0 0]) (pls := [(0, 1), (1, 1)]) (by kernel_rfl) rfl (by kernel_rfl) rfl rfl rfl) rfl) ?_)); (conv => (arg 9; try tactic => exact nrmF)); (conv => (arg 11; try simp only [List.nil_append, List.cons_append])))
                | ((first | first | (refine AF.sl rfl (SW.w (OW.store (ty := 24) (n := 2) rfl (by conv => lhs; whnf) rfl rfl (by kernel_rfl) rfl rfl (by decide) rfl (Nat.le_of_ble_eq_true rfl) (by intro r h; cases h)) rfl) rfl ?_)); (conv => (arg 9; try tactic => exact nrmF)); (conv => (arg 11; try simp only [List.nil_append, List.cons_append])); (conv => (arg 10; try tactic => exact nrmF)))
                | (refine AF.nil ?_ (by kernel_rfl); (conv => (arg 4; simp only [List.drop_succ_cons, List.drop_zero, List.drop_nil]))))
              | ((with_reducible refine RP.on ?_); exact RP.n (t' := [junk, junk, junk, junk, junk, junk, junk, junk, junk, junk, junk, junk, junk, junk, junk, junk, junk, junk, junk, junk, junk, junk, junk, junk, junk, junk, junk, junk, junk, junk, junk, junk, junk, junk, junk, junk, junk, junk, junk, junk, junk, junk, junk, junk, junk, junk]) (m' := [some ⟨[.string ⟨#[]⟩, .slice none 0 0], true, 0⟩, some ⟨[.int .i64 0], true, 0⟩, some ⟨[.int .i64 0], true, 0⟩, some ⟨[.string (tx nm), .slice (some ⟨5, 0, none⟩) 1 INF], true, 0⟩, some ⟨[.int .i64 ((k + 1 : Nat) : Int)], true, 0⟩, some ⟨flatE [e], true, 4⟩]) (Wk.keep 5 [6] (Nat.le_of_eq hE') rfl rfl (by repeat (first | exact RenT.nil | refine RenT.junk ?_ | refine RenT.val (by first | rfl | with_reducible assumption | (simp only [rn3, rn2, rn1, kσ]; done)) (by first | rfl | assumption | (simp [ok3, ok2, ok1]; done)) ?_)) ⟨⟨_, rfl, rfl, rfl, .inl ⟨rfl, rfl⟩⟩, ⟨_, rfl, rfl, rfl, .inl ⟨rfl, rfl⟩⟩, ⟨_, rfl, rfl, rfl, .inl ⟨rfl, rfl⟩⟩, ⟨_, rfl, rfl, rfl, .inr ⟨rfl, rfl⟩⟩, ⟨_, rfl, rfl, rfl, .inl ⟨rfl, rfl⟩⟩, ⟨_, rfl, rfl, rfl, .inl ⟨rfl, rfl⟩⟩, trivial⟩) ⟨nm, [] ++ [e], hR', by rw [slv_ne _ (by simp), slB_ne (by simp)]; rfl⟩))
          · rw [slv_ne _ hes, slB_ne hes]
            have HR := fun (m : Mem) (s f : Nat) (n0 : ByteArray) hs hf' hn => read_e1' (m := m) (s := s) (f := f) (nm := n0) (es := es) L ((bsP t).getD k []) (by omega) hr (by omega) hs hf' hn
            rw [← hf] at HR
            generalize (bsP t).getD k [] = b at *
            clear hr hv
            repeat' (first
              | with_reducible refine Then.n ?_
              | with_reducible refine Then.r ?_
              | with_reducible refine Then.x ?_
              | with_reducible refine InB.n ?_
              | with_reducible refine InB.r ?_
              | with_reducible refine InB.hit ?_
              | with_reducible refine InB.miss (by decide) ?_
              | ((with_reducible refine AL.on ?_); first
                | (refine AL.gd rfl ?_; first | (refine AL.gskip rfl rfl ?_; (conv => (arg 5; try tactic => exact nrm))) | (refine AL.gs1 rfl rfl (fun hc => ?_) (fun hc => ?_) <;> (try simp only [decide_eq_true_eq, decide_eq_false_iff_not, Bool.not_true, Bool.not_false, Bool.not_eq_true', Bool.not_eq_false', Int.not_lt, Int.not_le, Classical.not_not, ne_eq] at hc) <;> first | (exfalso; first | contradiction | (first | omega | (simp at hc; done)); done) | (conv => (arg 5; try tactic => exact nrm))) | (refine AL.gs0 rfl rfl (fun hc => ?_) (fun hc => ?_) <;> (try simp only [decide_eq_true_eq, decide_eq_false_iff_not, Bool.not_true, Bool.not_false, Bool.not_eq_true', Bool.not_eq_false', Int.not_lt, Int.not_le, Classical.not_not, ne_eq] at hc) <;> first | (exfalso; first | contradiction | (first | omega | (simp at hc; done)); done) | (conv => (arg 5; try tactic => exact nrm))))
                | ((first | ((with_reducible refine AL.k_move ?_); first | (refine AL.q rfl (OQ.move (by conv => lhs; whnf)) ?_)) | ((with_reducible refine AL.k_load ?_); first | (refine AL.q rfl (OQ.load1 (ty := 3) rfl (by kernel_rfl) (by conv => lhs; whnf)) ?_)) | ((with_reducible refine AL.k_binOp ?_); first | refine AL.q rfl (OQ.addi rfl rfl (by omega)) ?_ | refine AL.q rfl (OQ.add rfl rfl) ?_ | refine AL.q rfl (OQ.eql rfl rfl) ?_) | ((with_reducible refine AL.k_extract ?_); first | refine AL.q rfl (OQ.extract rfl rfl) ?_) | ((with_reducible refine AL.k_assign ?_); first | (refine AL.q rfl (OQ.assign (by conv => lhs; whnf)) ?_)) | ((with_reducible refine AL.k_unOp ?_); first | refine AL.q rfl (OQ.not rfl) ?_) | ((with_reducible refine AL.k_pick ?_); first | (refine AL.q rfl (OQ.pickT rfl (by with_reducible rfl) (by conv => lhs; whnf)) ?_) | (refine AL.q rfl (OQ.pickF rfl (by with_reducible rfl) (by conv => lhs; whnf)) ?_))); (conv => (arg 5; try tactic => exact nrm)))
                | ((first | first | refine AL.pcall (g := 26) rfl (by kernel_rfl) rfl ((by exact HC _)) ?_); (conv => (arg 5; try tactic => exact nrm)))
                | ((first | ((with_reducible refine AL.k_store ?_); first | (refine AL.w rfl (OW.store (ty := 3) (n := 1) rfl (by conv => lhs; whnf) rfl rfl (by kernel_rfl) rfl rfl (by decide) rfl (Nat.le_of_ble_eq_true rfl) (by intro r h; cases h)) ?_) | (refine AL.w rfl (OW.store (ty := 27) (n := 1) rfl (by conv => lhs; whnf) rfl rfl (by kernel_rfl) rfl rfl (by decide) rfl (Nat.le_of_ble_eq_true rfl) (by intro r h; cases h)) ?_)) | ((with_reducible refine AL.k_call ?_); first | refine AL.acallW hG (g := 27) rfl (by kernel_rfl) rfl ((by exact HR _ _ _ _ rfl rfl (by decide))) ?_)); (conv => (arg 5; try tactic => exact nrm)); (conv => (arg 6; try tactic => exact nrm)))
                | (refine AL.bs rfl (fun hc => ?_) (fun hc => ?_) <;> (fail_if_success (with_reducible exact lit_no hc)) <;> (try simp only [decide_eq_true_eq, decide_eq_false_iff_not, Bool.not_true, Bool.not_false, Bool.not_eq_true', Bool.not_eq_false', Int.not_lt, Int.not_le, Classical.not_not, ne_eq] at hc) <;> first | (exfalso; first | contradiction | (first | omega | (simp at hc; done)); done) | (conv => (arg 5; try tactic => exact nrm)))
                | refine AL.nil ?_)
              | ((with_reducible refine AWR.on ?_); first
                | refine AWR.seq ?_
                | refine AWR.skip ?_
                | refine AWR.exit ?_
                | refine AWR.ret ?_
                | refine AWR.block ?_
                | (refine AWR.drawF (id := 10) 3 #[0, 0, 1, 7, 15] (by kernel_rfl) (by kernel_rfl) (by kernel_rfl) ?_; (conv => (arg 8; simp only [List.take_succ_cons, List.take_zero])))
                | refine AWR.region (by kernel_rfl) ?_
                | (refine AWR.conds rfl (fun hc => ?_) (fun hc => ?_) <;> (try simp only [decide_eq_true_eq, decide_eq_false_iff_not, Bool.not_true, Bool.not_false, Bool.not_eq_true', Bool.not_eq_false', Int.not_lt, Int.not_le, Classical.not_not, ne_eq] at hc) <;> first | (exfalso; first | contradiction | (first | omega | (simp at hc; done)); done) | skip))
              | ((with_reducible refine AF.on ?_); first
                | ((first | ((with_reducible refine AF.k_load ?_); first | (refine AF.ql rfl (SW.q (OQ.load1 (ty := 3) rfl (by kernel_rfl) (by conv => lhs; whnf)) rfl) ?_)) | ((with_reducible refine AF.k_build ?_); first | refine AF.q 0 (SW.q (OQ.buildS (ty := 24) (zs := [.string ⟨#[]⟩, .slice none 0 0]) (pls := [(0, 1), (1, 1)]) (by kernel_rfl) rfl (by kernel_rfl) rfl rfl rfl) rfl) ?_)); (conv => (arg 9; try tactic => exact nrmF)); (conv => (arg 11; try simp only [List.nil_append, List.cons_append])))
                | ((first | first | (refine AF.sl rfl (SW.w (OW.store (ty := 24) (n := 2) rfl (by conv => lhs; whnf) rfl rfl (by kernel_rfl) rfl rfl (by decide) rfl (Nat.le_of_ble_eq_true rfl) (by intro r h; cases h)) rfl) rfl ?_)); (conv => (arg 9; try tactic => exact nrmF)); (conv => (arg 11; try simp only [List.nil_append, List.cons_append])); (conv => (arg 10; try tactic => exact nrmF)))
                | (refine AF.nil ?_ (by kernel_rfl); (conv => (arg 4; simp only [List.drop_succ_cons, List.drop_zero, List.drop_nil]))))
              | ((with_reducible refine RP.on ?_); exact RP.n (t' := [junk, junk, junk, junk, junk, junk, junk, junk, junk, junk, junk, junk, junk, junk, junk, junk, junk, junk, junk, junk, junk, junk, junk, junk, junk, junk, junk, junk, junk, junk, junk, junk, junk, junk, junk, junk, junk, junk, junk, junk, junk, junk, junk, junk, junk, junk]) (m' := [some ⟨[.string ⟨#[]⟩, .slice none 0 0], true, 0⟩, some ⟨[.int .i64 0], true, 0⟩, some ⟨[.int .i64 0], true, 0⟩, some ⟨[.string (tx nm), .slice (some ⟨5, 0, none⟩) (es.length + 1) INF], true, 0⟩, some ⟨[.int .i64 ((k + 1 : Nat) : Int)], true, 0⟩, some ⟨flatE (es ++ [e]), true, 4⟩]) (Wk.keep 5 [6] (Nat.le_of_eq hE') rfl rfl (by repeat (first | exact RenT.nil | refine RenT.junk ?_ | refine RenT.val (by first | rfl | with_reducible assumption | (simp only [rn3, rn2, rn1, kσ]; done)) (by first | rfl | assumption | (simp [ok3, ok2, ok1]; done)) ?_)) ⟨⟨_, rfl, rfl, rfl, .inl ⟨rfl, rfl⟩⟩, ⟨_, rfl, rfl, rfl, .inl ⟨rfl, rfl⟩⟩, ⟨_, rfl, rfl, rfl, .inl ⟨rfl, rfl⟩⟩, ⟨_, rfl, rfl, rfl, .inr ⟨rfl, rfl⟩⟩, ⟨_, rfl, rfl, rfl, .inl ⟨rfl, rfl⟩⟩, ⟨_, rfl, rfl, rfl, .inl ⟨rfl, flatE_scal _⟩⟩, trivial⟩) ⟨nm, es ++ [e], hR', by rw [slv_ne _ (by simp), slB_ne (by simp), List.length_append]; rfl⟩))
    · obtain ⟨hk1, hk2, hk3⟩ := ln_n t k hkb hk
      have hla := la_le t
      have hv : lnV t k = .string (tx (laP t)) := by
        unfold lnV
        rw [hk2]
        rfl
      have HC := fun m => L.cutN m (laP t) (by omega) (la_clean t)
      have hp := prs_none ht' (hR.last hk1 hk3)
      rw [hv]
      change AWR _ _ _ _ [junk, junk, .pointer (some ⟨0, 0, none⟩), .pointer (some ⟨1, 0, none⟩), .pointer (some ⟨2, 0, none⟩), .pointer (some ⟨3, 0, none⟩), .pointer (some ⟨4, 0, none⟩), .string (tx (laP t)), junk, junk, junk, junk, junk, junk, junk, junk, junk, .string (tx (laP t)), junk, junk, junk, junk, junk, junk, junk, junk, junk, junk, junk, junk, junk, junk, junk, junk, junk, junk, junk, junk, junk, junk, junk, junk, junk, junk, junk, junk] _ _
      generalize laP t = b at *
      generalize slv 5 es = sv
      have hso := slB_own es
      generalize slB es = sb at *
      clear hv hk2
      repeat' (first
        | with_reducible refine Then.n ?_
        | with_reducible refine Then.r ?_
        | with_reducible refine Then.x ?_
        | with_reducible refine InB.n ?_
        | with_reducible refine InB.r ?_
        | with_reducible refine InB.hit ?_
        | with_reducible refine InB.miss (by decide) ?_
        | ((with_reducible refine AL.on ?_); first
          | (refine AL.gd rfl ?_; first | (refine AL.gskip rfl rfl ?_; (conv => (arg 5; try tactic => exact nrm))) | (refine AL.gs1 rfl rfl (fun hc => ?_) (fun hc => ?_) <;> (try simp only [decide_eq_true_eq, decide_eq_false_iff_not, Bool.not_true, Bool.not_false, Bool.not_eq_true', Bool.not_eq_false', Int.not_lt, Int.not_le, Classical.not_not, ne_eq] at hc) <;> first | (exfalso; first | contradiction | (first | omega | (simp at hc; done)); done) | (conv => (arg 5; try tactic => exact nrm))) | (refine AL.gs0 rfl rfl (fun hc => ?_) (fun hc => ?_) <;> (try simp only [decide_eq_true_eq, decide_eq_false_iff_not, Bool.not_true, Bool.not_false, Bool.not_eq_true', Bool.not_eq_false', Int.not_lt, Int.not_le, Classical.not_not, ne_eq] at hc) <;> first | (exfalso; first | contradiction | (first | omega | (simp at hc; done)); done) | (conv => (arg 5; try tactic => exact nrm))))
          | ((first | ((with_reducible refine AL.k_move ?_); first | (refine AL.q rfl (OQ.move (by conv => lhs; whnf)) ?_)) | ((with_reducible refine AL.k_load ?_); first | (refine AL.q rfl (OQ.load1 (ty := 3) rfl (by kernel_rfl) (by conv => lhs; whnf)) ?_)) | ((with_reducible refine AL.k_binOp ?_); first | refine AL.q rfl (OQ.addi rfl rfl (by omega)) ?_ | refine AL.q rfl (OQ.add rfl rfl) ?_ | refine AL.q rfl (OQ.eql rfl rfl) ?_) | ((with_reducible refine AL.k_extract ?_); first | refine AL.q rfl (OQ.extract rfl rfl) ?_) | ((with_reducible refine AL.k_assign ?_); first | (refine AL.q rfl (OQ.assign (by conv => lhs; whnf)) ?_)) | ((with_reducible refine AL.k_unOp ?_); first | refine AL.q rfl (OQ.not rfl) ?_) | ((with_reducible refine AL.k_pick ?_); first | (refine AL.q rfl (OQ.pickT rfl (by with_reducible rfl) (by conv => lhs; whnf)) ?_) | (refine AL.q rfl (OQ.pickF rfl (by with_reducible rfl) (by conv => lhs; whnf)) ?_))); (conv => (arg 5; try tactic => exact nrm)))
          | ((first | first | refine AL.pcall (g := 26) rfl (by kernel_rfl) rfl ((by exact HC _)) ?_); (conv => (arg 5; try tactic => exact nrm)))
          | ((first | first | (refine AL.w rfl (OW.store (ty := 3) (n := 1) rfl (by conv => lhs; whnf) rfl rfl (by kernel_rfl) rfl rfl (by decide) rfl (Nat.le_of_ble_eq_true rfl) (by intro r h; cases h)) ?_) | (refine AL.w rfl (OW.store (ty := 27) (n := 1) rfl (by conv => lhs; whnf) rfl rfl (by kernel_rfl) rfl rfl (by decide) rfl (Nat.le_of_ble_eq_true rfl) (by intro r h; cases h)) ?_)); (conv => (arg 5; try tactic => exact nrm)); (conv => (arg 6; try tactic => exact nrm)))
          | (refine AL.bs rfl (fun hc => ?_) (fun hc => ?_) <;> (fail_if_success (with_reducible exact lit_no hc)) <;> (try simp only [decide_eq_true_eq, decide_eq_false_iff_not, Bool.not_true, Bool.not_false, Bool.not_eq_true', Bool.not_eq_false', Int.not_lt, Int.not_le, Classical.not_not, ne_eq] at hc) <;> first | (exfalso; first | contradiction | (first | omega | (simp at hc; done)); done) | (conv => (arg 5; try tactic => exact nrm)))
          | refine AL.nil ?_)
        | ((with_reducible refine AWR.on ?_); first
          | refine AWR.seq ?_
          | refine AWR.skip ?_
          | refine AWR.exit ?_
          | refine AWR.ret ?_
          | refine AWR.block ?_
          | (refine AWR.drawF (id := 10) 3 #[0, 0, 1, 7, 15] (by kernel_rfl) (by kernel_rfl) (by kernel_rfl) ?_; (conv => (arg 8; simp only [List.take_succ_cons, List.take_zero])))
          | refine AWR.region (by kernel_rfl) ?_
          | (refine AWR.conds rfl (fun hc => ?_) (fun hc => ?_) <;> (try simp only [decide_eq_true_eq, decide_eq_false_iff_not, Bool.not_true, Bool.not_false, Bool.not_eq_true', Bool.not_eq_false', Int.not_lt, Int.not_le, Classical.not_not, ne_eq] at hc) <;> first | (exfalso; first | contradiction | (first | omega | (simp at hc; done)); done) | skip))
        | ((with_reducible refine AF.on ?_); first
          | ((first | ((with_reducible refine AF.k_load ?_); first | (refine AF.ql rfl (SW.q (OQ.load1 (ty := 3) rfl (by kernel_rfl) (by conv => lhs; whnf)) rfl) ?_)) | ((with_reducible refine AF.k_build ?_); first | refine AF.q 0 (SW.q (OQ.buildS (ty := 24) (zs := [.string ⟨#[]⟩, .slice none 0 0]) (pls := [(0, 1), (1, 1)]) (by kernel_rfl) rfl (by kernel_rfl) rfl rfl rfl) rfl) ?_)); (conv => (arg 9; try tactic => exact nrmF)); (conv => (arg 11; try simp only [List.nil_append, List.cons_append])))
          | ((first | first | (refine AF.sl rfl (SW.w (OW.store (ty := 24) (n := 2) rfl (by conv => lhs; whnf) rfl rfl (by kernel_rfl) rfl rfl (by decide) rfl (Nat.le_of_ble_eq_true rfl) (by intro r h; cases h)) rfl) rfl ?_)); (conv => (arg 9; try tactic => exact nrmF)); (conv => (arg 11; try simp only [List.nil_append, List.cons_append])); (conv => (arg 10; try tactic => exact nrmF)))
          | (refine AF.nil ?_ (by kernel_rfl); (conv => (arg 4; simp only [List.drop_succ_cons, List.drop_zero, List.drop_nil]))))
        | ((with_reducible refine RP.on ?_); exact RP.r (t' := [junk, junk, junk, junk, junk, junk, junk, junk, junk, junk, junk, junk, junk, junk, junk, junk, junk, junk, junk, junk, junk, junk, junk, junk, junk, junk, junk, junk, junk, junk, junk, junk, junk, junk, junk, junk, junk, junk, junk, junk, junk, junk, junk, junk, junk, junk]) (m' := [some ⟨[.string ⟨#[]⟩, .slice none 0 0], true, 0⟩, some ⟨[.int .i64 ((k + 1 : Nat) : Int)], true, 0⟩, some ⟨[.int .i64 7], true, 0⟩, none, none]) (Wk.keep 5 [] (Nat.le_of_eq hE') rfl rfl (by repeat (first | exact RenT.nil | refine RenT.junk ?_ | refine RenT.val (by first | rfl | with_reducible assumption | (simp only [rn3, rn2, rn1, kσ]; done)) (by first | rfl | assumption | (simp [ok3, ok2, ok1]; done)) ?_)) ⟨⟨_, rfl, rfl, rfl, .inl ⟨rfl, rfl⟩⟩, ⟨_, rfl, rfl, rfl, .inl ⟨rfl, rfl⟩⟩, ⟨_, rfl, rfl, rfl, .inl ⟨rfl, rfl⟩⟩, trivial⟩) ⟨hp, rfl⟩))
  · rintro m E' ⟨nm, es, hR, rfl⟩ hE' hGG
    have hge := ln_ge t
    have hk1 : (linesOf t).length = (bsP t).length := Nat.le_antisymm hR.le hge
    have hla := ln_len t hk1
    have hbs := bs_len t
    have hlen := hR.len
    have hsz2 := hR.sz
    rw [hk1] at hR ⊢
    have ht' : t.length ≤ 60000 := by omega
    have HK : ∀ (m : Mem) (v : Value), SlE m v es → PCalls Tryz.prog 19 [srV (tx nm) v] m (.int .i64 (srE nm es)) := fun m v hS => CheckSeries_q (tx nm) hS (by rw [tx_size]; omega) (by omega)
    rcases Nat.eq_zero_or_pos (bsP t).length with h0 | h0
    · rw [h0] at hR ⊢
      have hp := prs_none ht' (hR.none h0.symm)
      rw [hp]
      generalize slv 5 es = sv
      generalize slB es = sb
      repeat' (first
        | with_reducible refine Then.n ?_
        | with_reducible refine Then.r ?_
        | with_reducible refine Then.x ?_
        | with_reducible refine InB.n ?_
        | with_reducible refine InB.r ?_
        | with_reducible refine InB.hit ?_
        | with_reducible refine InB.miss (by decide) ?_
        | ((with_reducible refine AL.on ?_); first
          | ((first | ((with_reducible refine AL.k_move ?_); first | (refine AL.q rfl (OQ.move (by conv => lhs; whnf)) ?_)) | ((with_reducible refine AL.k_call ?_); first | refine AL.q rfl (OQ.lenStr rfl Tryz.underlying9) ?_) | ((with_reducible refine AL.k_binOp ?_); first | refine AL.q rfl (OQ.gtr rfl rfl) ?_ | refine AL.q rfl (OQ.eql rfl rfl) ?_ | refine AL.q rfl (OQ.neq rfl rfl) ?_) | ((with_reducible refine AL.k_load ?_); first | (refine AL.q rfl (OQ.load1 (ty := 3) rfl (by kernel_rfl) (by conv => lhs; whnf)) ?_) | refine AL.q rfl (OQ.loadN (ty := 24) (n := 2) rfl (by kernel_rfl) (by kernel_rfl) rfl) ?_) | ((with_reducible refine AL.k_assign ?_); first | (refine AL.q rfl (OQ.assign (by conv => lhs; whnf)) ?_))); (conv => (arg 5; try tactic => exact nrm)))
          | ((first | first | refine AL.q rfl (OQ.buildS (ty := 24) (zs := [.string ⟨#[]⟩, .slice none 0 0]) (pls := [(0, 1), (1, 1)]) (by kernel_rfl) rfl (by kernel_rfl) rfl rfl rfl) ?_); (conv => (arg 5; try tactic => exact nrm)))
          | ((first | ((with_reducible refine AL.k_store ?_); first | (refine AL.w rfl (OW.store (ty := 24) (n := 2) rfl (by conv => lhs; whnf) rfl rfl (by kernel_rfl) rfl rfl (by decide) rfl (Nat.le_of_ble_eq_true rfl) (by intro r h; cases h)) ?_) | (refine AL.w rfl (OW.store (ty := 3) (n := 1) rfl (by conv => lhs; whnf) rfl rfl (by kernel_rfl) rfl rfl (by decide) rfl (Nat.le_of_ble_eq_true rfl) (by intro r h; cases h)) ?_) | (refine AL.w rfl (OW.store (ty := 27) (n := 1) rfl (by conv => lhs; whnf) rfl rfl (by kernel_rfl) rfl rfl (by decide) rfl (Nat.le_of_ble_eq_true rfl) (by intro r h; cases h)) ?_)) | ((with_reducible refine AL.k_alloc ?_); first | refine AL.w rfl (OW.alloc (ty := 24) (z := [.string ⟨#[]⟩, .slice none 0 0]) (by kernel_rfl) rfl) ?_ | refine AL.w rfl (OW.alloc (ty := 3) (z := [.int .i64 0]) (by kernel_rfl) rfl) ?_ | refine AL.w rfl (OW.alloc (ty := 27) (z := [.int .i64 0]) (by kernel_rfl) rfl) ?_)); (conv => (arg 5; try tactic => exact nrm)); (conv => (arg 6; try tactic => exact nrm)))
          | refine AL.nil ?_)
        | ((with_reducible refine AW.on ?_); first
          | refine AW.seq ?_
          | refine AW.skip ?_
          | refine AW.exit ?_
          | refine AW.ret ?_
          | refine AW.block ?_
          | (refine AW.region (id := 13) ?_; exfalso; first | omega | (simp at hc; done); done)
          | refine AW.region ?_
          | (refine AW.conds rfl (fun hc => ?_) (fun hc => ?_) <;> (try simp only [decide_eq_true_eq, decide_eq_false_iff_not, Bool.not_true, Bool.not_false, Bool.not_eq_true', Bool.not_eq_false', Int.not_lt, Int.not_le, Classical.not_not, ne_eq] at hc) <;> first | (exfalso; first | contradiction | (first | omega | (simp at hc; done)); done) | skip))
        | ((with_reducible refine FinA.on ?_); (refine FinA.keep 0 [] (.inl rfl) (.cellN (n := 2) (by conv => lhs; whnf) (by kernel_rfl) (by kernel_rfl) rfl (.cell1 (by conv => lhs; whnf) (by kernel_rfl) (by conv => lhs; whnf) (.cell1 (by conv => lhs; whnf) (by kernel_rfl) (by conv => lhs; whnf) .nil))) ?_ rfl (Nat.le_of_eq hE) rfl rfl trivial; rfl)))
    · have hp := prs_some ht' (hR.end rfl hla (by omega))
      rcases Classical.em (srE nm es = 0) with hc0 | hc0
      · rw [if_pos hc0] at hp
        rw [hp]
        rcases Classical.em (es = []) with hes | hes
        · subst hes
          exact absurd hc0 srE_nil
        · rw [slv_ne _ hes, slB_ne hes, resP_ne hes, slM_ne hes]
          generalize (bsP t).length = B at *
          repeat' (first
            | with_reducible refine Then.n ?_
            | with_reducible refine Then.r ?_
            | with_reducible refine Then.x ?_
            | with_reducible refine InB.n ?_
            | with_reducible refine InB.r ?_
            | with_reducible refine InB.hit ?_
            | with_reducible refine InB.miss (by decide) ?_
            | ((with_reducible refine AL.on ?_); first
              | ((first | ((with_reducible refine AL.k_move ?_); first | (refine AL.q rfl (OQ.move (by conv => lhs; whnf)) ?_)) | ((with_reducible refine AL.k_call ?_); first | refine AL.q rfl (OQ.lenStr rfl Tryz.underlying9) ?_) | ((with_reducible refine AL.k_binOp ?_); first | refine AL.q rfl (OQ.gtr rfl rfl) ?_ | refine AL.q rfl (OQ.eql rfl rfl) ?_ | refine AL.q rfl (OQ.neq rfl rfl) ?_) | ((with_reducible refine AL.k_load ?_); first | (refine AL.q rfl (OQ.load1 (ty := 3) rfl (by kernel_rfl) (by conv => lhs; whnf)) ?_) | refine AL.q rfl (OQ.loadN (ty := 24) (n := 2) rfl (by kernel_rfl) (by kernel_rfl) rfl) ?_) | ((with_reducible refine AL.k_assign ?_); first | (refine AL.q rfl (OQ.assign (by conv => lhs; whnf)) ?_))); (conv => (arg 5; try tactic => exact nrm)))
              | ((first | ((with_reducible refine AL.k_build ?_); first | refine AL.q rfl (OQ.buildS (ty := 24) (zs := [.string ⟨#[]⟩, .slice none 0 0]) (pls := [(0, 1), (1, 1)]) (by kernel_rfl) rfl (by kernel_rfl) rfl rfl rfl) ?_) | ((with_reducible refine AL.k_call ?_); first | refine AL.pcall (g := 19) rfl (by kernel_rfl) rfl ((by exact HK _ _ (.blk _ _ rfl rfl rfl))) ?_)); (conv => (arg 5; try tactic => exact nrm)))
              | ((first | ((with_reducible refine AL.k_store ?_); first | (refine AL.w rfl (OW.store (ty := 24) (n := 2) rfl (by conv => lhs; whnf) rfl rfl (by kernel_rfl) rfl rfl (by decide) rfl (Nat.le_of_ble_eq_true rfl) (by intro r h; cases h)) ?_) | (refine AL.w rfl (OW.store (ty := 3) (n := 1) rfl (by conv => lhs; whnf) rfl rfl (by kernel_rfl) rfl rfl (by decide) rfl (Nat.le_of_ble_eq_true rfl) (by intro r h; cases h)) ?_) | (refine AL.w rfl (OW.store (ty := 27) (n := 1) rfl (by conv => lhs; whnf) rfl rfl (by kernel_rfl) rfl rfl (by decide) rfl (Nat.le_of_ble_eq_true rfl) (by intro r h; cases h)) ?_)) | ((with_reducible refine AL.k_alloc ?_); first | refine AL.w rfl (OW.alloc (ty := 24) (z := [.string ⟨#[]⟩, .slice none 0 0]) (by kernel_rfl) rfl) ?_ | refine AL.w rfl (OW.alloc (ty := 3) (z := [.int .i64 0]) (by kernel_rfl) rfl) ?_ | refine AL.w rfl (OW.alloc (ty := 27) (z := [.int .i64 0]) (by kernel_rfl) rfl) ?_)); (conv => (arg 5; try tactic => exact nrm)); (conv => (arg 6; try tactic => exact nrm)))
              | refine AL.nil ?_)
            | ((with_reducible refine AW.on ?_); first
              | refine AW.seq ?_
              | refine AW.skip ?_
              | refine AW.exit ?_
              | refine AW.ret ?_
              | refine AW.block ?_
              | (refine AW.region (id := 12) ?_; exfalso; first | omega | (simp at hc; done); done)
              | refine AW.region ?_
              | (refine AW.conds rfl (fun hc => ?_) (fun hc => ?_) <;> (try simp only [decide_eq_true_eq, decide_eq_false_iff_not, Bool.not_true, Bool.not_false, Bool.not_eq_true', Bool.not_eq_false', Int.not_lt, Int.not_le, Classical.not_not, ne_eq] at hc) <;> first | (exfalso; first | contradiction | (first | omega | (simp at hc; done)); done) | skip))
            | ((with_reducible refine FinA.on ?_); (refine FinA.keep 0 [5] (.inl rfl) (.cellN (n := 2) (by conv => lhs; whnf) (by kernel_rfl) (by kernel_rfl) rfl (.cell1 (by conv => lhs; whnf) (by kernel_rfl) (by conv => lhs; whnf) (.cell1 (by conv => lhs; whnf) (by kernel_rfl) (by conv => lhs; whnf) .nil))) ?_ rfl (Nat.le_of_eq hE) rfl rfl ⟨⟨_, rfl, rfl, rfl, .inl ⟨rfl, flatE_scal _⟩⟩, trivial⟩; rfl)))
      · rw [if_neg hc0] at hp
        rw [hp]
        generalize (bsP t).length = B at *
        rcases Classical.em (es = []) with hes | hes
        · subst hes
          rw [slv_nil, slB_nil]
          repeat' (first
            | with_reducible refine Then.n ?_
            | with_reducible refine Then.r ?_
            | with_reducible refine Then.x ?_
            | with_reducible refine InB.n ?_
            | with_reducible refine InB.r ?_
            | with_reducible refine InB.hit ?_
            | with_reducible refine InB.miss (by decide) ?_
            | ((with_reducible refine AL.on ?_); first
              | ((first | ((with_reducible refine AL.k_move ?_); first | (refine AL.q rfl (OQ.move (by conv => lhs; whnf)) ?_)) | ((with_reducible refine AL.k_call ?_); first | refine AL.q rfl (OQ.lenStr rfl Tryz.underlying9) ?_) | ((with_reducible refine AL.k_binOp ?_); first | refine AL.q rfl (OQ.gtr rfl rfl) ?_ | refine AL.q rfl (OQ.eql rfl rfl) ?_ | refine AL.q rfl (OQ.neq rfl rfl) ?_) | ((with_reducible refine AL.k_load ?_); first | (refine AL.q rfl (OQ.load1 (ty := 3) rfl (by kernel_rfl) (by conv => lhs; whnf)) ?_) | refine AL.q rfl (OQ.loadN (ty := 24) (n := 2) rfl (by kernel_rfl) (by kernel_rfl) rfl) ?_) | ((with_reducible refine AL.k_assign ?_); first | (refine AL.q rfl (OQ.assign (by conv => lhs; whnf)) ?_))); (conv => (arg 5; try tactic => exact nrm)))
              | ((first | ((with_reducible refine AL.k_build ?_); first | refine AL.q rfl (OQ.buildS (ty := 24) (zs := [.string ⟨#[]⟩, .slice none 0 0]) (pls := [(0, 1), (1, 1)]) (by kernel_rfl) rfl (by kernel_rfl) rfl rfl rfl) ?_) | ((with_reducible refine AL.k_call ?_); first | refine AL.pcall (g := 19) rfl (by kernel_rfl) rfl ((by exact HK _ _ (.nil rfl rfl))) ?_)); (conv => (arg 5; try tactic => exact nrm)))
              | ((first | ((with_reducible refine AL.k_store ?_); first | (refine AL.w rfl (OW.store (ty := 24) (n := 2) rfl (by conv => lhs; whnf) rfl rfl (by kernel_rfl) rfl rfl (by decide) rfl (Nat.le_of_ble_eq_true rfl) (by intro r h; cases h)) ?_) | (refine AL.w rfl (OW.store (ty := 3) (n := 1) rfl (by conv => lhs; whnf) rfl rfl (by kernel_rfl) rfl rfl (by decide) rfl (Nat.le_of_ble_eq_true rfl) (by intro r h; cases h)) ?_) | (refine AL.w rfl (OW.store (ty := 27) (n := 1) rfl (by conv => lhs; whnf) rfl rfl (by kernel_rfl) rfl rfl (by decide) rfl (Nat.le_of_ble_eq_true rfl) (by intro r h; cases h)) ?_)) | ((with_reducible refine AL.k_alloc ?_); first | refine AL.w rfl (OW.alloc (ty := 24) (z := [.string ⟨#[]⟩, .slice none 0 0]) (by kernel_rfl) rfl) ?_ | refine AL.w rfl (OW.alloc (ty := 3) (z := [.int .i64 0]) (by kernel_rfl) rfl) ?_ | refine AL.w rfl (OW.alloc (ty := 27) (z := [.int .i64 0]) (by kernel_rfl) rfl) ?_)); (conv => (arg 5; try tactic => exact nrm)); (conv => (arg 6; try tactic => exact nrm)))
              | refine AL.nil ?_)
            | ((with_reducible refine AW.on ?_); first
              | refine AW.seq ?_
              | refine AW.skip ?_
              | refine AW.exit ?_
              | refine AW.ret ?_
              | refine AW.block ?_
              | (refine AW.region (id := 12) ?_; exfalso; first | omega | (simp at hc; done); done)
              | refine AW.region ?_
              | (refine AW.conds rfl (fun hc => ?_) (fun hc => ?_) <;> (try simp only [decide_eq_true_eq, decide_eq_false_iff_not, Bool.not_true, Bool.not_false, Bool.not_eq_true', Bool.not_eq_false', Int.not_lt, Int.not_le, Classical.not_not, ne_eq] at hc) <;> first | (exfalso; first | contradiction | (first | omega | (simp at hc; done)); done) | skip))
            | ((with_reducible refine FinA.on ?_); (refine FinA.keep 0 [] (.inl rfl) (.cellN (n := 2) (by conv => lhs; whnf) (by kernel_rfl) (by kernel_rfl) rfl (.cell1 (by conv => lhs; whnf) (by kernel_rfl) (by conv => lhs; whnf) (.cell1 (by conv => lhs; whnf) (by kernel_rfl) (by conv => lhs; whnf) .nil))) ?_ rfl (Nat.le_of_eq hE) rfl rfl trivial; rfl)))
        · rw [slv_ne _ hes, slB_ne hes]
          repeat' (first
            | with_reducible refine Then.n ?_
            | with_reducible refine Then.r ?_
            | with_reducible refine Then.x ?_
            | with_reducible refine InB.n ?_
            | with_reducible refine InB.r ?_
            | with_reducible refine InB.hit ?_
            | with_reducible refine InB.miss (by decide) ?_
            | ((with_reducible refine AL.on ?_); first
              | ((first | ((with_reducible refine AL.k_move ?_); first | (refine AL.q rfl (OQ.move (by conv => lhs; whnf)) ?_)) | ((with_reducible refine AL.k_call ?_); first | refine AL.q rfl (OQ.lenStr rfl Tryz.underlying9) ?_) | ((with_reducible refine AL.k_binOp ?_); first | refine AL.q rfl (OQ.gtr rfl rfl) ?_ | refine AL.q rfl (OQ.eql rfl rfl) ?_ | refine AL.q rfl (OQ.neq rfl rfl) ?_) | ((with_reducible refine AL.k_load ?_); first | (refine AL.q rfl (OQ.load1 (ty := 3) rfl (by kernel_rfl) (by conv => lhs; whnf)) ?_) | refine AL.q rfl (OQ.loadN (ty := 24) (n := 2) rfl (by kernel_rfl) (by kernel_rfl) rfl) ?_) | ((with_reducible refine AL.k_assign ?_); first | (refine AL.q rfl (OQ.assign (by conv => lhs; whnf)) ?_))); (conv => (arg 5; try tactic => exact nrm)))
              | ((first | ((with_reducible refine AL.k_build ?_); first | refine AL.q rfl (OQ.buildS (ty := 24) (zs := [.string ⟨#[]⟩, .slice none 0 0]) (pls := [(0, 1), (1, 1)]) (by kernel_rfl) rfl (by kernel_rfl) rfl rfl rfl) ?_) | ((with_reducible refine AL.k_call ?_); first | refine AL.pcall (g := 19) rfl (by kernel_rfl) rfl ((by exact HK _ _ (.blk _ _ rfl rfl rfl))) ?_)); (conv => (arg 5; try tactic => exact nrm)))
              | ((first | ((with_reducible refine AL.k_store ?_); first | (refine AL.w rfl (OW.store (ty := 24) (n := 2) rfl (by conv => lhs; whnf) rfl rfl (by kernel_rfl) rfl rfl (by decide) rfl (Nat.le_of_ble_eq_true rfl) (by intro r h; cases h)) ?_) | (refine AL.w rfl (OW.store (ty := 3) (n := 1) rfl (by conv => lhs; whnf) rfl rfl (by kernel_rfl) rfl rfl (by decide) rfl (Nat.le_of_ble_eq_true rfl) (by intro r h; cases h)) ?_) | (refine AL.w rfl (OW.store (ty := 27) (n := 1) rfl (by conv => lhs; whnf) rfl rfl (by kernel_rfl) rfl rfl (by decide) rfl (Nat.le_of_ble_eq_true rfl) (by intro r h; cases h)) ?_)) | ((with_reducible refine AL.k_alloc ?_); first | refine AL.w rfl (OW.alloc (ty := 24) (z := [.string ⟨#[]⟩, .slice none 0 0]) (by kernel_rfl) rfl) ?_ | refine AL.w rfl (OW.alloc (ty := 3) (z := [.int .i64 0]) (by kernel_rfl) rfl) ?_ | refine AL.w rfl (OW.alloc (ty := 27) (z := [.int .i64 0]) (by kernel_rfl) rfl) ?_)); (conv => (arg 5; try tactic => exact nrm)); (conv => (arg 6; try tactic => exact nrm)))
              | refine AL.nil ?_)
            | ((with_reducible refine AW.on ?_); first
              | refine AW.seq ?_
              | refine AW.skip ?_
              | refine AW.exit ?_
              | refine AW.ret ?_
              | refine AW.block ?_
              | (refine AW.region (id := 12) ?_; exfalso; first | omega | (simp at hc; done); done)
              | refine AW.region ?_
              | (refine AW.conds rfl (fun hc => ?_) (fun hc => ?_) <;> (try simp only [decide_eq_true_eq, decide_eq_false_iff_not, Bool.not_true, Bool.not_false, Bool.not_eq_true', Bool.not_eq_false', Int.not_lt, Int.not_le, Classical.not_not, ne_eq] at hc) <;> first | (exfalso; first | contradiction | (first | omega | (simp at hc; done)); done) | skip))
            | ((with_reducible refine FinA.on ?_); (refine FinA.keep 0 [] (.inl rfl) (.cellN (n := 2) (by conv => lhs; whnf) (by kernel_rfl) (by kernel_rfl) rfl (.cell1 (by conv => lhs; whnf) (by kernel_rfl) (by conv => lhs; whnf) (.cell1 (by conv => lhs; whnf) (by kernel_rfl) (by conv => lhs; whnf) .nil))) ?_ rfl (Nat.le_of_eq hE) rfl rfl trivial; rfl)))
  · rintro k m ⟨hp, rfl⟩
    rw [hp]
    refine FinA.keep 0 [] (.inl rfl) (.cellN (n := 2) (by conv => lhs; whnf) (by kernel_rfl) (by kernel_rfl) rfl (.cell1 (by conv => lhs; whnf) (by kernel_rfl) (by conv => lhs; whnf) (.cell1 (by conv => lhs; whnf) (by kernel_rfl) (by conv => lhs; whnf) .nil))) ?_ rfl (Nat.le_of_eq hE) rfl rfl trivial
    rfl
end Go.Proofs.YtmghmmmfdbafoaaGreatDoor
end
