/- Chapter 2's small functions: what each call returns; memory that was there stands as it did. -/
import Derived.Test.YthhhkjbhhjcjoaaGreatDoorRows
import Derived.WalkKit
import Derived.WalkSpells
import Derived.WalkLawsBesides
import Derived.Handy
import Derived.Lib.Hide
import Derived.Deep.QuietTactic
import Derived.BigQuiet
import Derived.Test.YthhhkjbhhjcjoaaGreatDoorFree
import Derived.Test.YthhhkjbhhjcjoaaGreatDoor02Spec
set_option linter.unusedSimpArgs false
set_option linter.unusedVariables false
namespace Go.Proofs.YthhhkjbhhjcjoaaGreatDoor
open Go.RowKit Go.Ob

/-- The states of an orbit, in memory. -/
def HasSts (w : World) (b off : Nat) (l : List St) : Prop := ∀ k, k < l.length →
  w.cell? ⟨b, off + k * 5, none⟩ = some (.int .i64 (at_ l k).t) ∧ w.cell? ⟨b, off + k * 5 + 1, none⟩ = some (.int .i64 (at_ l k).x) ∧ w.cell? ⟨b, off + k * 5 + 2, none⟩ = some (.int .i64 (at_ l k).y) ∧
  w.cell? ⟨b, off + k * 5 + 3, none⟩ = some (.int .i64 (at_ l k).z) ∧ w.cell? ⟨b, off + k * 5 + 4, none⟩ = some (.int .i64 (at_ l k).e)
theorem HasSts.below {w w' : World} {b off : Nat} {l : List St} (h : HasSts w b off l) {B : Nat} (hb : Below B w w') (hlt : b < B) : HasSts w' b off l := fun k hk => by
  obtain ⟨h1, h2, h3, h4, h5⟩ := h k hk
  refine ⟨?_, ?_, ?_, ?_, ?_⟩ <;> (rw [hb.cell (by exact hlt)]; assumption)

set_option maxHeartbeats 400000 in
theorem cmp_any (s : St) (t : Int) (w : World) (hs : s.Ok) (h0 : 0 ≤ t) (h1 : t ≤ 1000000000) :
    Calls Tryz.prog 131 #[.agg #[.int .i64 s.t, .int .i64 s.x, .int .i64 s.y, .int .i64 s.z, .int .i64 s.e], .int .i64 t] w fun e w' => e = .returned (.int .i64 (s.t - t)) ∧ Below w.heap.size w w' := by
  have hs0 := hs.t0
  have hs1 := hs.t1
  go_enter Tryz.func131, Tryz.ntmps131
  go_wp2
  go_ret
  exact ⟨rfl, (Below.refl _ _).alloc (Nat.le_refl _) _⟩

set_option maxHeartbeats 1000000 in
theorem search_any (b off cap : Nat) (l : List St) (t : Int) (w : World) (hS : HasSts w b off l) (hbw : b < w.heap.size) (hn : l.length ≤ 40) (hok : ∀ k, k < l.length → (at_ l k).Ok)
    (hup : ∀ k, k + 1 < l.length → (at_ l k).t < (at_ l (k + 1)).t) (h0 : 0 ≤ t) (h1 : t ≤ 1000000000) (hle : l.length ≤ cap) :
    Calls Tryz.prog 130 #[.slice (some ⟨b, off, none⟩) l.length cap, .int .i64 t, .func (.func 131) #[] #[]] w
      fun e w' => e = .returned (.tuple #[.int .i64 (idx l t), .bool (decide (idx l t < l.length ∧ (at_ l (idx l t)).t = t))]) ∧ Below w.heap.size w w' := by
  go_enter Tryz.func130, Tryz.ntmps130
  go_wp2
  go_loopw [9, 10, 11] (fun i j h wr => ∃ p q : Nat, p ≤ q ∧ q ≤ l.length ∧ i = .int .i64 p ∧ j = .int .i64 q ∧ (∀ k, k < p → (at_ l k).t < t) ∧ (∀ k, q ≤ k → k < l.length → t ≤ (at_ l k).t) ∧ Below w.heap.size w wr) (fun i j _ _ => (intOf j - intOf i).toNat)
  case atStart => exact ⟨0, l.length, Nat.zero_le _, Nat.le_refl _, rfl, rfl, fun _ hk => by omega, fun _ hk hk2 => by omega, Below.refl _ _⟩
  case round =>
    obtain ⟨p, q, hpq, hq, rfl, rfl, hp, hq2, hb⟩ := hrel
    have hSr := hS.below hb hbw
    by_cases hlt : p < q
    · obtain ⟨c1, c2, c3, c4, c5⟩ := hSr ((p + q) / 2) (by omega)
      have hu := hok ((p + q) / 2) (by omega)
      have HM : Hid ((p + q) / 2 < q) := by unfold Hid; omega
      have HM2 : Hid (p ≤ (p + q) / 2) := by unfold Hid; omega
      have HP := Lib.hid hp
      have HQ := Lib.hid hq2
      have HU := Lib.hid hup
      have HO := Lib.hid hok
      clear hp hq2 hup hok hS hSr
      have hzb := hb.size
      by_cases hd : (at_ l ((p + q) / 2)).t < t
      · go_wp2_with (go_at_call 131; refine (cmp_any _ _ _ hu h0 h1).mono ?_; rintro e w' ⟨rfl, hb2⟩)
        go_roundw
        case measure => have := HM.out; have := HM2.out; simp [intOf]; omega
        case rel =>
          refine ⟨(p + q) / 2 + 1, q, by have := HM.out; omega, hq, by go_num, rfl, fun k hk => ?_, HQ.out, hb.trans (hb2.mono hzb)⟩
          by_cases hk2 : k = (p + q) / 2
          · subst hk2; exact hd
          · have := up_lt HU.out ((p + q) / 2) k (by omega) (by have := HM.out; omega)
            omega
      · go_wp2_with (go_at_call 131; refine (cmp_any _ _ _ hu h0 h1).mono ?_; rintro e w' ⟨rfl, hb2⟩)
        go_roundw
        case measure => have := HM.out; have := HM2.out; simp [intOf]; omega
        case rel =>
          refine ⟨p, (p + q) / 2, HM2.out, by have := HM.out; omega, rfl, by go_num, HP.out, fun k hk hk2 => ?_, hb.trans (hb2.mono hzb)⟩
          by_cases hk3 : k = (p + q) / 2
          · subst hk3; omega
          · have := up_lt HU.out k ((p + q) / 2) (by omega) hk2
            omega
    · have HI : Hid (idx l t = p) := idx_of l t p (by omega) hp (fun hl => hq2 p (by omega) hl)
      by_cases hpl : p < l.length
      · obtain ⟨c1, c2, c3, c4, c5⟩ := hSr p hpl
        have hu := hok p hpl
        clear hp hq2 hup hok hS hSr
        have hzb := hb.size
        by_cases hd : (at_ l p).t = t
        · have hd2 : ((at_ l p).t - t == 0) = true := by simp; omega
          have HD := Lib.hid hd
          clear hd
          go_wp2_with (go_at_call 131; refine (cmp_any _ _ _ hu h0 h1).mono ?_; rintro e w' ⟨rfl, hb2⟩)
          go_ret2
          exact ⟨by rw [HI.out]; simp [HD.out, hpl], hb.trans (hb2.mono hzb)⟩
        · have hd2 : ((at_ l p).t - t == 0) = false := by simp; omega
          have HD := Lib.hid hd
          clear hd
          go_wp2_with (go_at_call 131; refine (cmp_any _ _ _ hu h0 h1).mono ?_; rintro e w' ⟨rfl, hb2⟩)
          go_ret2
          exact ⟨by rw [HI.out]; simp [HD.out], hb.trans (hb2.mono hzb)⟩
      · clear hp hq2 hup hok hS hSr
        go_wp2
        go_ret2
        exact ⟨by rw [HI.out]; simp [hpl], hb⟩
end Go.Proofs.YthhhkjbhhjcjoaaGreatDoor
