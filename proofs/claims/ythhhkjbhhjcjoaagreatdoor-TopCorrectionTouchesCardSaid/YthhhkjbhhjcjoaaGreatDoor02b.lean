/- Chapter 2's small functions: what each call returns; memory that was there stands as it did. -/
/- Chapter 2's small functions of the program: what each call returns. -/
import Derived.Test.YthhhkjbhhjcjoaaGreatDoorRows
import Derived.WalkKit
import Derived.WalkSpells
import Derived.WalkLawsBesides
import Derived.Handy
import Derived.Lib.Hide
import Derived.Deep.QuietTactic
import Derived.BigQuiet
import Derived.Test.YthhhkjbhhjcjoaaGreatDoorFree
import Derived.Test.YthhhkjbhhjcjoaaGreatDoor02Spec
set_option linter.unusedSimpArgs false
set_option linter.unusedVariables false
section
namespace Go.Proofs.YthhhkjbhhjcjoaaGreatDoor
open Go.RowKit Go.Ob

/-- The states of an orbit, in memory. -/
def HasSts (w : World) (b off : Nat) (l : List St) : Prop := ∀ k, k < l.length →
  w.cell? ⟨b, off + k * 5, none⟩ = some (.int .i64 (at_ l k).t) ∧ w.cell? ⟨b, off + k * 5 + 1, none⟩ = some (.int .i64 (at_ l k).x) ∧ w.cell? ⟨b, off + k * 5 + 2, none⟩ = some (.int .i64 (at_ l k).y) ∧
  w.cell? ⟨b, off + k * 5 + 3, none⟩ = some (.int .i64 (at_ l k).z) ∧ w.cell? ⟨b, off + k * 5 + 4, none⟩ = some (.int .i64 (at_ l k).e)
theorem HasSts.below {w w' : World} {b off : Nat} {l : List St} (h : HasSts w b off l) {B : Nat} (hb : Below B w w') (hlt : b < B) : HasSts w' b off l := fun k hk => by
  obtain ⟨h1, h2, h3, h4, h5⟩ := h k hk
  refine ⟨?_, ?_, ?_, ?_, ?_⟩ <;> (rw [hb.cell (by exact hlt)]; assumption)

set_option maxHeartbeats 400000 in
theorem cmp_any (s : St) (t : Int) (w : World) (hs : s.Ok) (h0 : 0 ≤ t) (h1 : t ≤ 1000000000) :
    Calls Tryz.prog 131 #[.agg #[.int .i64 s.t, .int .i64 s.x, .int .i64 s.y, .int .i64 s.z, .int .i64 s.e], .int .i64 t] w fun e w' => e = .returned (.int .i64 (s.t - t)) ∧ Below w.heap.size w w' := by
  have hs0 := hs.t0
  have hs1 := hs.t1
  go_enter Tryz.func131, Tryz.ntmps131
  go_wp2
  go_ret
  exact ⟨rfl, (Below.refl _ _).alloc (Nat.le_refl _) _⟩

set_option maxHeartbeats 1000000 in
theorem search_any (b off cap : Nat) (l : List St) (t : Int) (w : World) (hS : HasSts w b off l) (hbw : b < w.heap.size) (hn : l.length ≤ 40) (hok : ∀ k, k < l.length → (at_ l k).Ok)
    (hup : ∀ k, k + 1 < l.length → (at_ l k).t < (at_ l (k + 1)).t) (h0 : 0 ≤ t) (h1 : t ≤ 1000000000) (hle : l.length ≤ cap) :
    Calls Tryz.prog 130 #[.slice (some ⟨b, off, none⟩) l.length cap, .int .i64 t, .func (.func 131) #[] #[]] w
      fun e w' => e = .returned (.tuple #[.int .i64 (idx l t), .bool (decide (idx l t < l.length ∧ (at_ l (idx l t)).t = t))]) ∧ Below w.heap.size w w' := by
  go_enter Tryz.func130, Tryz.ntmps130
  go_wp2
  go_loopw [9, 10, 11] (fun i j h wr => ∃ p q : Nat, p ≤ q ∧ q ≤ l.length ∧ i = .int .i64 p ∧ j = .int .i64 q ∧ (∀ k, k < p → (at_ l k).t < t) ∧ (∀ k, q ≤ k → k < l.length → t ≤ (at_ l k).t) ∧ Below w.heap.size w wr) (fun i j _ _ => (intOf j - intOf i).toNat)
  case atStart => exact ⟨0, l.length, Nat.zero_le _, Nat.le_refl _, rfl, rfl, fun _ hk => by omega, fun _ hk hk2 => by omega, Below.refl _ _⟩
  case round =>
    obtain ⟨p, q, hpq, hq, rfl, rfl, hp, hq2, hb⟩ := hrel
    have hSr := hS.below hb hbw
    by_cases hlt : p < q
    · obtain ⟨c1, c2, c3, c4, c5⟩ := hSr ((p + q) / 2) (by omega)
      have hu := hok ((p + q) / 2) (by omega)
      have HM : Hid ((p + q) / 2 < q) := by unfold Hid; omega
      have HM2 : Hid (p ≤ (p + q) / 2) := by unfold Hid; omega
      have HP := Lib.hid hp
      have HQ := Lib.hid hq2
      have HU := Lib.hid hup
      have HO := Lib.hid hok
      clear hp hq2 hup hok hS hSr
      have hzb := hb.size
      by_cases hd : (at_ l ((p + q) / 2)).t < t
      · go_wp2_with (go_at_call 131; refine (cmp_any _ _ _ hu h0 h1).mono ?_; rintro e w' ⟨rfl, hb2⟩)
        go_roundw
        case measure => have := HM.out; have := HM2.out; simp [intOf]; omega
        case rel =>
          refine ⟨(p + q) / 2 + 1, q, by have := HM.out; omega, hq, by go_num, rfl, fun k hk => ?_, HQ.out, hb.trans (hb2.mono hzb)⟩
          by_cases hk2 : k = (p + q) / 2
          · subst hk2; exact hd
          · have := up_lt HU.out ((p + q) / 2) k (by omega) (by have := HM.out; omega)
            omega
      · go_wp2_with (go_at_call 131; refine (cmp_any _ _ _ hu h0 h1).mono ?_; rintro e w' ⟨rfl, hb2⟩)
        go_roundw
        case measure => have := HM.out; have := HM2.out; simp [intOf]; omega
        case rel =>
          refine ⟨p, (p + q) / 2, HM2.out, by have := HM.out; omega, rfl, by go_num, HP.out, fun k hk hk2 => ?_, hb.trans (hb2.mono hzb)⟩
          by_cases hk3 : k = (p + q) / 2
          · subst hk3; omega
          · have := up_lt HU.out k ((p + q) / 2) (by omega) hk2
            omega
    · have HI : Hid (idx l t = p) := idx_of l t p (by omega) hp (fun hl => hq2 p (by omega) hl)
      by_cases hpl : p < l.length
      · obtain ⟨c1, c2, c3, c4, c5⟩ := hSr p hpl
        have hu := hok p hpl
        clear hp hq2 hup hok hS hSr
        have hzb := hb.size
        by_cases hd : (at_ l p).t = t
        · have hd2 : ((at_ l p).t - t == 0) = true := by simp; omega
          have HD := Lib.hid hd
          clear hd
          go_wp2_with (go_at_call 131; refine (cmp_any _ _ _ hu h0 h1).mono ?_; rintro e w' ⟨rfl, hb2⟩)
          go_ret2
          exact ⟨by rw [HI.out]; simp [HD.out, hpl], hb.trans (hb2.mono hzb)⟩
        · have hd2 : ((at_ l p).t - t == 0) = false := by simp; omega
          have HD := Lib.hid hd
          clear hd
          go_wp2_with (go_at_call 131; refine (cmp_any _ _ _ hu h0 h1).mono ?_; rintro e w' ⟨rfl, hb2⟩)
          go_ret2
          exact ⟨by rw [HI.out]; simp [HD.out], hb.trans (hb2.mono hzb)⟩
      · clear hp hq2 hup hok hS hSr
        go_wp2
        go_ret2
        exact ⟨by rw [HI.out]; simp [hpl], hb⟩
end Go.Proofs.YthhhkjbhhjcjoaaGreatDoor
end

section
namespace Go.Proofs.YthhhkjbhhjcjoaaGreatDoor
open Go.RowKit Go.Ob

theorem field_range0 (a b : Int) (w : World) : (Instr.field 60 (.agg #[.int .i64 a, .int .i64 b]) 0).run Tryz.prog w = .ok (.int .i64 a) w := by kernel_rfl
theorem field_range1 (a b : Int) (w : World) : (Instr.field 60 (.agg #[.int .i64 a, .int .i64 b]) 1).run Tryz.prog w = .ok (.int .i64 b) w := by kernel_rfl
attribute [go_sem] field_range0 field_range1
theorem int_eq {k : IntKind} {a b : Int} (h : a = b) : Ending.returned (.int k a) = .returned (.int k b) := by rw [h]

set_option maxHeartbeats 400000 in
theorem within_any (n lo hi : Int) (w : World) :
    Calls Tryz.prog 59 #[.int .i64 n, .int .i64 lo, .int .i64 hi] w fun e w' => e = .returned (.bool (rngB n lo hi)) ∧ w = w' := by
  have ht : ∀ b, rngB n lo hi = b → Ending.returned (.bool b) = .returned (.bool (rngB n lo hi)) := fun b h => by rw [h]
  by_cases h1 : lo ≤ n
  · by_cases h2 : n ≤ hi
    · have H := Lib.hid (ht _ (rngB_true.2 ⟨h1, h2⟩))
      clear ht
      go_enter Tryz.func59, Tryz.ntmps59
      go_wp2
      go_ret
      exact ⟨H.out, rfl⟩
    · have H := Lib.hid (ht _ (rngB_false.2 (by omega)))
      clear ht
      go_enter Tryz.func59, Tryz.ntmps59
      go_wp2
      go_ret
      exact ⟨H.out, rfl⟩
  · have H := Lib.hid (ht _ (rngB_false.2 (by omega)))
    clear ht
    go_enter Tryz.func59, Tryz.ntmps59
    go_wp2
    go_ret
    exact ⟨H.out, rfl⟩

set_option maxHeartbeats 400000 in
theorem bound_any (n lo hi : Int) (w : World) :
    Calls Tryz.prog 81 #[.int .i64 n, .int .i64 lo, .int .i64 hi] w fun e w' => e = .returned (.int .i64 (bnd n lo hi)) ∧ w = w' := by
  cases hd : rngB n lo hi with
  | true =>
    have hb : Hid (bnd n lo hi = 0) := by unfold Hid bnd; rw [if_pos (rngB_true.1 hd)]
    go_enter Tryz.func81, Tryz.ntmps81
    go_wp2_with (go_at_call 59; refine (within_any _ _ _ _).mono ?_; rintro e w' ⟨rfl, rfl⟩)
    go_ret
    exact ⟨int_eq hb.out.symm, rfl⟩
  | false =>
    have hb : Hid (bnd n lo hi = 2) := by unfold Hid bnd; rw [if_neg (rngB_false.1 hd)]
    go_enter Tryz.func81, Tryz.ntmps81
    go_wp2_with (go_at_call 59; refine (within_any _ _ _ _).mono ?_; rintro e w' ⟨rfl, rfl⟩)
    go_ret
    exact ⟨int_eq hb.out.symm, rfl⟩

theorem tdiv_pos (n d : Int) (hd : 1 ≤ d) (h : n.tmod d < 0) : n.tdiv d - 1 = n / d := by
  have h1 := Int.mul_tdiv_add_tmod n d
  have h2 := Int.mul_ediv_add_emod n d
  have h3 := Int.emod_nonneg n (by omega : d ≠ 0)
  have h4 := Int.emod_lt_of_pos n (by omega : 0 < d)
  have h5 : -d < n.tmod d := by have := Int.lt_tmod_of_pos n (by omega : 0 < d); omega
  have h6 : d * (n.tdiv d - 1) + (n.tmod d + d) = d * (n / d) + n % d := by rw [Int.mul_sub]; omega
  have : d * (n.tdiv d - 1 - n / d) = n % d - (n.tmod d + d) := by rw [Int.mul_sub]; omega
  have hz : n.tdiv d - 1 - n / d = 0 := by
    rcases Int.lt_trichotomy (n.tdiv d - 1 - n / d) 0 with h7 | h7 | h7
    · have : d * (n.tdiv d - 1 - n / d) ≤ d * (-1) := Int.mul_le_mul_of_nonneg_left (by omega) (by omega)
      omega
    · exact h7
    · have : d * 1 ≤ d * (n.tdiv d - 1 - n / d) := Int.mul_le_mul_of_nonneg_left (by omega) (by omega)
      omega
  omega
theorem tdiv_nonneg (n d : Int) (hd : 1 ≤ d) (h : ¬ n.tmod d < 0) : n.tdiv d = n / d := by
  have h1 := Int.mul_tdiv_add_tmod n d
  have h2 := Int.mul_ediv_add_emod n d
  have h3 := Int.emod_nonneg n (by omega : d ≠ 0)
  have h4 := Int.emod_lt_of_pos n (by omega : 0 < d)
  have h5 : n.tmod d < d := Int.tmod_lt_of_pos n (by omega : 0 < d)
  have : d * (n.tdiv d - n / d) = n % d - n.tmod d := by rw [Int.mul_sub]; omega
  have hz : n.tdiv d - n / d = 0 := by
    rcases Int.lt_trichotomy (n.tdiv d - n / d) 0 with h7 | h7 | h7
    · have : d * (n.tdiv d - n / d) ≤ d * (-1) := Int.mul_le_mul_of_nonneg_left (by omega) (by omega)
      omega
    · exact h7
    · have : d * 1 ≤ d * (n.tdiv d - n / d) := Int.mul_le_mul_of_nonneg_left (by omega) (by omega)
      omega
  omega
theorem tdiv_bd (n d B : Int) (hd : 1 ≤ d) (h1 : -B ≤ n) (h2 : n ≤ B) : -B ≤ n.tdiv d ∧ n.tdiv d ≤ B := by
  have := Int.mul_tdiv_add_tmod n d
  by_cases hn : 0 ≤ n
  · have a := Int.tdiv_nonneg hn (by omega : 0 ≤ d)
    have b := Int.tmod_nonneg d hn
    have c : n.tdiv d ≤ d * n.tdiv d := by
      have := Int.mul_le_mul_of_nonneg_right hd a; omega
    omega
  · have hn' : 0 ≤ -n := by omega
    have a := Int.tdiv_nonneg hn' (by omega : 0 ≤ d)
    rw [Int.neg_tdiv] at a
    have b := Int.tmod_nonneg d hn'
    rw [Int.neg_tmod] at b
    have c : -(n.tdiv d) ≤ d * -(n.tdiv d) := by
      have := Int.mul_le_mul_of_nonneg_right hd a; omega
    rw [Int.mul_neg] at c
    omega

set_option maxHeartbeats 400000 in
theorem floor_any (n d : Int) (w : World) (hn : -4611686018427387904 ≤ n) (hn2 : n ≤ 4611686018427387904) (hd : 1 ≤ d) (hd2 : d ≤ 4611686018427387904) :
    Calls Tryz.prog 105 #[.int .i64 n, .int .i64 d] w fun e w' => e = .returned (.int .i64 (n / d)) ∧ w = w' := by
  obtain ⟨hb1, hb2⟩ := tdiv_bd n d _ hd hn hn2
  by_cases h1 : n.tmod d < 0
  · have H : Hid (n.tdiv d - 1 = n / d) := tdiv_pos n d hd h1
    go_enter Tryz.func105, Tryz.ntmps105
    go_wp2
    go_ret
    exact ⟨int_eq H.out, rfl⟩
  · have H : Hid (n.tdiv d = n / d) := tdiv_nonneg n d hd h1
    go_enter Tryz.func105, Tryz.ntmps105
    go_wp2
    go_ret
    exact ⟨int_eq H.out, rfl⟩

set_option maxHeartbeats 400000 in
theorem ceil_any (n d : Int) (w : World) (hn : -4611686018427387904 ≤ n) (hn2 : n ≤ 4611686018427387904) (hd : 1 ≤ d) (hd2 : d ≤ 4611686018427387904) :
    Calls Tryz.prog 106 #[.int .i64 n, .int .i64 d] w fun e w' => e = .returned (.int .i64 (-((-n) / d))) ∧ w = w' := by
  have hq1 : -4611686018427387904 ≤ -n / d := by
    have := Int.mul_ediv_add_emod (-n) d
    have h3 := Int.emod_lt_of_pos (-n) (by omega : 0 < d)
    rcases Int.lt_or_le (-n / d) (-4611686018427387904) with h | h
    · have : d * (-n / d) ≤ 1 * (-n / d) := Int.mul_le_mul_of_nonpos_right hd (by omega)
      have h5 : d * (-n / d + 1) ≤ 1 * (-n/d + 1) := Int.mul_le_mul_of_nonpos_right hd (by omega)
      rw [Int.mul_add] at h5
      omega
    · exact h
  have hq2 : -n / d ≤ 4611686018427387904 := by
    have := Int.mul_ediv_add_emod (-n) d
    have h3 := Int.emod_nonneg (-n) (by omega : d ≠ 0)
    rcases Int.lt_or_le 4611686018427387904 (-n / d) with h | h
    · have : 1 * (-n / d) ≤ d * (-n / d) := Int.mul_le_mul_of_nonneg_right hd (by omega)
      omega
    · exact h
  go_enter Tryz.func106, Tryz.ntmps106
  go_wp2_with (go_at_call 105; refine (floor_any _ _ _ (by omega) (by omega) hd hd2).mono ?_; rintro e w' ⟨rfl, rfl⟩)
  go_ret
  exact ⟨rfl, rfl⟩

abbrev v3 (x y z : Int) : Value := .agg #[.int .i64 x, .int .i64 y, .int .i64 z]

set_option maxHeartbeats 400000 in
theorem vectorOf_any (x y z : Int) (w : World) :
    Calls Tryz.prog 76 #[v3 x y z] w fun e w' => e = .returned (v3 x y z) ∧ Below w.heap.size w w' := by
  go_enter Tryz.func76, Tryz.ntmps76
  go_wp2
  refine bodyPost_ret (v := v3 x y z) (by simp [results, Tryz.results76, go_sem, *]) rfl ?_
  exact ⟨rfl, by repeat' first | with_reducible exact Below.refl _ _ | with_reducible assumption | with_reducible refine Free.Grow.alloc ?_ _ | with_reducible refine Free.Grow.setCell ?_ (by first | omega | (simp; done) | (simp; omega)) _ | with_reducible refine Free.Grow.drew ?_ | with_reducible refine Free.Grow.trans ?_ (by assumption)⟩

set_option maxHeartbeats 400000 in
theorem mix_any (a b : Nat) (u v s t : Int) (w : World) (ha : w.cell? ⟨a, 0, none⟩ = some (.int .i64 s)) (hb : w.cell? ⟨b, 0, none⟩ = some (.int .i64 t))
    (hs : 0 ≤ s - t ∧ s - t ≤ 20000) (ht : 0 ≤ t ∧ t ≤ 20000) (hu : -100000000 ≤ u ∧ u ≤ 100000000) (hv : -100000000 ≤ v ∧ v ≤ 100000000) :
    Calls Tryz.prog 132 #[.int .i64 u, .int .i64 v, .pointer (some ⟨a, 0, none⟩), .pointer (some ⟨b, 0, none⟩)] w fun e w' => e = .returned (.int .i64 (u * (s - t) + v * t)) ∧ w = w' := by
  have h1 : -2000000000000 ≤ u * (s - t) ∧ u * (s - t) ≤ 2000000000000 := by
    have := Int.mul_le_mul_of_nonneg_right hu.1 hs.1
    have := Int.mul_le_mul_of_nonneg_right hu.2 hs.1
    omega
  have h2 : -2000000000000 ≤ v * t ∧ v * t ≤ 2000000000000 := by
    have := Int.mul_le_mul_of_nonneg_right hv.1 ht.1
    have := Int.mul_le_mul_of_nonneg_right hv.2 ht.1
    omega
  obtain ⟨h11, h12⟩ := h1
  obtain ⟨h21, h22⟩ := h2
  go_enter Tryz.func132, Tryz.ntmps132
  go_wp2
  go_ret
  exact ⟨rfl, rfl⟩

set_option maxHeartbeats 800000 in
/-- The first error of a list in memory. -/
theorem first_any (b n : Nat) (es : List Int) (w : World) (hn : n = es.length) (hl : n ≤ 1000) (hpos : 0 < n) (hc : ∀ k, k < n → w.cell? ⟨b, k, none⟩ = some (.int .i64 (nthI es k))) :
    Calls Tryz.prog 63 #[.slice (some ⟨b, 0, none⟩) n n] w fun e w' => e = .returned (.int .i64 (firstE es)) ∧ w = w' := by
  have HN := Lib.hid hn
  clear hn
  go_enter Tryz.func63, Tryz.ntmps63
  go_wp2
  go_loop [4, 7] (fun _ i => ∃ k : Nat, k ≤ n ∧ i = .int .i64 k ∧ firstE es = firstE (es.drop k)) (fun _ i => n - (intOf i).toNat)
  case atStart => exact ⟨0, Nat.zero_le _, rfl, by simp⟩
  case round =>
    obtain ⟨k, hk, rfl, hf⟩ := hrel
    by_cases hlt : k < n
    · have hck := hc k hlt
      have HF : Hid (firstE es = if nthI es k = 0 then firstE (es.drop (k + 1)) else nthI es k) := by
        unfold Hid
        rw [hf]
        have := nthI_drop (l := es) (k := k) (by have := HN.out; omega)
        rw [this]; rfl
      clear hf hc
      by_cases he : nthI es k = 0
      · have he2 : (nthI es k != 0) = false := by simp [he]
        have HE := Lib.hid he
        clear he
        go_wp2
        go_round
        case rel => exact ⟨k + 1, by omega, by go_num, by rw [HF.out, if_pos HE.out]⟩
        case measure => simp [intOf]; omega
      · have he2 : (nthI es k != 0) = true := by simp only [bne_iff_ne]; exact he
        have HE := Lib.hid he
        clear he
        go_wp2
        go_ret
        exact ⟨int_eq (by rw [HF.out, if_neg HE.out]), rfl⟩
    · have HF : Hid (firstE es = 0) := by
        unfold Hid; rw [hf, List.drop_eq_nil_of_le (by have := HN.out; omega)]; rfl
      clear hf hc
      go_wp2
      go_ret
      exact ⟨int_eq HF.out.symm, rfl⟩

theorem first2_any (b : Nat) (e1 e2 : Int) (w : World) (h0 : w.cell? ⟨b, 0, none⟩ = some (.int .i64 e1)) (h1 : w.cell? ⟨b, 1, none⟩ = some (.int .i64 e2)) :
    Calls Tryz.prog 63 #[.slice (some ⟨b, 0, none⟩) 2 2] w fun e w' => e = .returned (.int .i64 (firstE [e1, e2])) ∧ w = w' :=
  first_any b 2 [e1, e2] w rfl (by decide) (by decide) fun k hk => match k, hk with
    | 0, _ => h0
    | 1, _ => h1
theorem first3_any (b : Nat) (e1 e2 e3 : Int) (w : World) (h0 : w.cell? ⟨b, 0, none⟩ = some (.int .i64 e1)) (h1 : w.cell? ⟨b, 1, none⟩ = some (.int .i64 e2)) (h2 : w.cell? ⟨b, 2, none⟩ = some (.int .i64 e3)) :
    Calls Tryz.prog 63 #[.slice (some ⟨b, 0, none⟩) 3 3] w fun e w' => e = .returned (.int .i64 (firstE [e1, e2, e3])) ∧ w = w' :=
  first_any b 3 [e1, e2, e3] w rfl (by decide) (by decide) fun k hk => match k, hk with
    | 0, _ => h0
    | 1, _ => h1
    | 2, _ => h2

end Go.Proofs.YthhhkjbhhjcjoaaGreatDoor
end
