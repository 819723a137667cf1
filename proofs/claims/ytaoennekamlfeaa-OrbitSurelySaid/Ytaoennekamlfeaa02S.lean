/- Chapter 2: what OrbitSurely needs: boxes are small, a place drawn in a box, Mod. -/
import Derived.Test.Ytaoennekamlfeaa02N
import Derived.Test.Ytaoennekamlfeaa02O
set_option linter.unusedSimpArgs false
set_option linter.unusedVariables false
namespace Go.Proofs.Ytaoennekamlfeaa
open Go.ChangeShapes Go.WideShapes Go.ChangeAt Go.RowKit Go.Ob

theorem dn_in2 {n off d : Int} (hd : 1 ≤ d) (h1 : -(100000000 * d) ≤ n) (h2 : n ≤ 100000000 * d) (h3 : 0 ≤ off) (h4 : off ≤ 200000 * d) : -200000000 ≤ dn n off d ∧ up n off d ≤ 200000000 := by
  have a := ediv_bd (n := n - off) (B := 200000000) hd (by omega) (by omega)
  have b := ediv_bd (n := -(n + off)) (B := 200000000) hd (by omega) (by omega)
  unfold dn up at *
  omega

theorem bx_tight {bd : Int} {l : List St} (hR : Right bd l) {t : Int} (h0 : frstT l ≤ t) (h1 : t ≤ lastT l) : (-200000000 ≤ (bx bd l t).l0 ∧ (bx bd l t).h0 ≤ 200000000) ∧ (-200000000 ≤ (bx bd l t).l1 ∧ (bx bd l t).h1 ≤ 200000000) ∧ (-200000000 ≤ (bx bd l t).l2 ∧ (bx bd l t).h2 ≤ 200000000) := by
  obtain ⟨hk1, hk2, hk3⟩ := kR_spec hR h0 h1
  have hup := hR.up (kR l t) hk1
  have hoka := hR.ok (kR l t) (by omega)
  have hokb := hR.ok (kR l t + 1) (by omega)
  have hb0 := hR.b0
  have hb1 := hR.b1
  rw [← (same_place hR h0 h1).2]
  unfold ptR
  generalize at_ l (kR l t) = a at *
  generalize at_ l (kR l t + 1) = b at *
  obtain ⟨p1, p2, p3, p4, p5⟩ := a
  obtain ⟨q1, q2, q3, q4, q5⟩ := b
  obtain ⟨oa1, oa2, oa3, oa4, oa5, oa6, oa7, oa8, oa9, oa10⟩ := hoka
  obtain ⟨ob1, ob2, ob3, ob4, ob5, ob6, ob7, ob8, ob9, ob10⟩ := hokb
  simp only at *
  have hs : q1 - p1 - (t - p1) + (t - p1) = q1 - p1 := by omega
  have m1 := mix_in (M := 100000000) (by omega) oa3 oa4 ob3 ob4 (s := q1 - p1 - (t - p1)) (t := t - p1) (by omega) (by omega)
  have m2 := mix_in (M := 100000000) (by omega) oa5 oa6 ob5 ob6 (s := q1 - p1 - (t - p1)) (t := t - p1) (by omega) (by omega)
  have m3 := mix_in (M := 100000000) (by omega) oa7 oa8 ob7 ob8 (s := q1 - p1 - (t - p1)) (t := t - p1) (by omega) (by omega)
  have m4 := mix_in (M := 100000) (by omega) (by omega) oa10 (by omega) ob10 (u := p5) (v := q5) (s := q1 - p1 - (t - p1)) (t := t - p1) (by omega) (by omega)
  have m4' := Int.mul_nonneg oa9 (show 0 ≤ q1 - p1 - (t - p1) by omega)
  have m4'' := Int.mul_nonneg ob9 (show 0 ≤ t - p1 by omega)
  have m5 := Int.mul_le_mul_of_nonneg_right hb1 (show 0 ≤ q1 - p1 by omega)
  have m6 := Int.mul_nonneg hb0 (show 0 ≤ q1 - p1 by omega)
  rw [hs] at m1 m2 m3 m4
  have hbend : 0 ≤ (prR bd ⟨p1, p2, p3, p4, p5⟩ ⟨q1, q2, q3, q4, q5⟩ t).bend ∧ (prR bd ⟨p1, p2, p3, p4, p5⟩ ⟨q1, q2, q3, q4, q5⟩ t).bend ≤ 100000 * (q1 - p1) := by
    unfold prR; simp only; split <;> omega
  have r1 := dn_in2 (d := q1 - p1) (off := (prR bd ⟨p1, p2, p3, p4, p5⟩ ⟨q1, q2, q3, q4, q5⟩ t).wrong + (prR bd ⟨p1, p2, p3, p4, p5⟩ ⟨q1, q2, q3, q4, q5⟩ t).bend) (by omega) m1.1 m1.2 (by simp only [prR] at hbend ⊢; omega) (by simp only [prR] at hbend ⊢; omega)
  have r2 := dn_in2 (d := q1 - p1) (off := (prR bd ⟨p1, p2, p3, p4, p5⟩ ⟨q1, q2, q3, q4, q5⟩ t).wrong + (prR bd ⟨p1, p2, p3, p4, p5⟩ ⟨q1, q2, q3, q4, q5⟩ t).bend) (by omega) m2.1 m2.2 (by simp only [prR] at hbend ⊢; omega) (by simp only [prR] at hbend ⊢; omega)
  have r3 := dn_in2 (d := q1 - p1) (off := (prR bd ⟨p1, p2, p3, p4, p5⟩ ⟨q1, q2, q3, q4, q5⟩ t).wrong + (prR bd ⟨p1, p2, p3, p4, p5⟩ ⟨q1, q2, q3, q4, q5⟩ t).bend) (by omega) m3.1 m3.2 (by simp only [prR] at hbend ⊢; omega) (by simp only [prR] at hbend ⊢; omega)
  exact ⟨⟨r1.1, r1.2⟩, ⟨r2.1, r2.2⟩, ⟨r3.1, r3.2⟩⟩

/-- A place between lo and hi, chosen by a number. -/
def chs (lo hi c : Int) : Int := lo + (hi - lo) * (c % 1001) / 1000
theorem chs_in {lo hi c : Int} (h : lo ≤ hi) : lo ≤ chs lo hi c ∧ chs lo hi c ≤ hi ∧ 0 ≤ c % 1001 ∧ c % 1001 ≤ 1000 ∧ 0 ≤ (hi - lo) * (c % 1001) ∧ (hi - lo) * (c % 1001) ≤ (hi - lo) * 1000 := by
  have h0 : 0 ≤ c % 1001 := by omega
  have h1 : c % 1001 ≤ 1000 := by omega
  have a := Int.mul_nonneg (show 0 ≤ hi - lo by omega) h0
  have b := Int.mul_le_mul_of_nonneg_left h1 (show 0 ≤ hi - lo by omega)
  unfold chs
  refine ⟨by omega, by omega, h0, h1, a, b⟩

theorem tmod_neg (a b : Int) (hb : 1 ≤ b) (h : a.tmod b < 0) : a.tmod b + b = a % b := by
  have h1 := Int.mul_tdiv_add_tmod a b
  have h2 := Int.mul_ediv_add_emod a b
  have h3 := tdiv_pos a b hb h
  have h4 : b * (a.tdiv b - 1) = b * (a / b) := by rw [h3]
  rw [Int.mul_sub] at h4
  omega
theorem tmod_nonneg (a b : Int) (hb : 1 ≤ b) (h : ¬ a.tmod b < 0) : a.tmod b = a % b := by
  have h1 := Int.mul_tdiv_add_tmod a b
  have h2 := Int.mul_ediv_add_emod a b
  have h3 := tdiv_nonneg a b hb h
  rw [h3] at h1
  omega
theorem tmod_bd (a b : Int) (hb : 1 ≤ b) : -b < a.tmod b ∧ a.tmod b < b := ⟨by have := Int.lt_tmod_of_pos a (by omega : 0 < b); omega, Int.tmod_lt_of_pos a (by omega : 0 < b)⟩

set_option maxHeartbeats 400000 in
theorem rMod_any (n d : Int) (w : World) (hd : 1 ≤ d) (hd2 : d ≤ 4611686018427387904) :
    Calls Try.prog 35 #[.int .i64 n, .int .i64 d] w fun e w' => e = .returned (.int .i64 (n % d)) ∧ w = w' := by
  obtain ⟨hb1, hb2⟩ := tmod_bd n d hd
  by_cases h1 : n.tmod d < 0
  · have H : Hid (n.tmod d + d = n % d) := tmod_neg n d hd h1
    go_enter Try.func35, Try.ntmps35
    go_wp2
    go_ret
    exact ⟨int_eq H.out, rfl⟩
  · have H : Hid (n.tmod d = n % d) := tmod_nonneg n d hd h1
    go_enter Try.func35, Try.ntmps35
    go_wp2
    go_ret
    exact ⟨int_eq H.out, rfl⟩

/-- The choices, as they lie in memory. -/
def ch_ (L : List P3) (k : Nat) : P3 := L.getD k ⟨0, 0, 0⟩
def HasCh (w : World) (b off : Nat) (L : List P3) : Prop := ∀ k, k < L.length →
  w.cell? ⟨b, off + k * 3, none⟩ = some (.int .i64 (ch_ L k).x) ∧ w.cell? ⟨b, off + k * 3 + 1, none⟩ = some (.int .i64 (ch_ L k).y) ∧ w.cell? ⟨b, off + k * 3 + 2, none⟩ = some (.int .i64 (ch_ L k).z)
theorem HasCh.below {w w' : World} {b off : Nat} {L : List P3} (h : HasCh w b off L) {B : Nat} (hb : Below B w w') (hlt : b < B) : HasCh w' b off L := fun k hk => by
  obtain ⟨h1, h2, h3⟩ := h k hk
  refine ⟨?_, ?_, ?_⟩ <;> (rw [hb.cell (by exact hlt)]; assumption)

abbrev flV (nm : ByteArray) (bd : Int) (a : Option Addr) (n cap : Nat) (a2 : Option Addr) (n2 cap2 : Nat) : Value := .agg #[.string nm, .int .i64 bd, .slice a n cap, .slice a2 n2 cap2]

theorem cells_c3 : Try.prog.cellsOf 67 = 3 := by kernel_rfl
theorem ints_c3 : intsT Try.prog 3 67 = true := by kernel_rfl
theorem cells_fl : Try.prog.cellsOf 66 = 4 := by kernel_rfl

section
variable {H : Type} {enc : TypeId × Value → H} {w : World} {base : Nat} {spare : Nat → Bool} {held : Bool}
/-- A slice of choices, read. -/
theorem open_chs {fuel : Nat} {v : Value} {x : DataW H × List MemPlace} (h : DataW.trod enc Try.prog w base spare held fuel 64 [v] = some x) :
    ∃ a L cap, v = .slice a (List.length (α := P3) L) cap ∧ L.length ≤ cap ∧ cap ≤ maxLen ∧ (L ≠ [] → ∃ b off, a = some ⟨b, off, none⟩ ∧ b < w.heap.size ∧ HasCh w b off L) := by
  rcases Go.Deep.open_slice Try.underlying64 h with ⟨h1, _⟩ | ⟨a, len, cap, m, n, D, Pl, hcs, hb, hl, hm, hmm, hx, hi⟩
  · simp only [List.cons.injEq, and_true] at h1
    subst h1
    exact ⟨none, [], 0, rfl, by simp, by simp [maxLen], fun e => absurd rfl e⟩
  · simp only [List.cons.injEq, and_true] at hcs
    subst hcs
    have hlm : len ≤ m := by rw [hmm]; split <;> omega
    let L : List P3 := (List.range len).map fun i => ⟨rdI w ((a.add (i * 3)).add 0), rdI w ((a.add (i * 3)).add 1), rdI w ((a.add (i * 3)).add 2)⟩
    have hL : L.length = len := by simp [L]
    have hcell : ∀ i, i < len → ∀ j, j < 3 → ∃ z, w.cell? ((a.add (i * 3)).add j) = some (.int .i64 z) := by
      intro i hil j hj
      obtain ⟨cs', hc, ht'⟩ := hi i (by omega)
      rw [cells_c3] at hc
      obtain ⟨_, hcl, hat⟩ := World.cells?_some hc
      obtain ⟨z, hz, hw⟩ := ints_of 3 _ _ _ _ ints_c3 ht' (cs'[j]'(by omega)) (List.getElem_mem _)
      exact ⟨z, by rw [hat j hj, List.getElem?_eq_getElem (by omega), hz]⟩
    have hat : ∀ i, i < len → ch_ L i = ⟨rdI w ((a.add (i * 3)).add 0), rdI w ((a.add (i * 3)).add 1), rdI w ((a.add (i * 3)).add 2)⟩ := fun i hil => by simp [ch_, L, hil]
    refine ⟨some a, L, cap, by rw [hL], by omega, hm, fun hne => ?_⟩
    have hpos : 0 < len := by
      rcases Nat.eq_zero_or_pos len with h0 | h0
      · exact absurd (List.eq_nil_of_length_eq_zero (by rw [hL]; exact h0)) hne
      · exact h0
    obtain ⟨z0, hz0⟩ := hcell 0 hpos 0 (by omega)
    have hs : a.spot = none := by
      have := spot_none hz0
      simpa [Addr.add] using this
    obtain ⟨b, off, sp⟩ := a
    simp only at hs
    subst hs
    refine ⟨b, off, rfl, World.block_lt_of_cell? w _ (by simpa [Addr.add] using hz0), fun k hk => ?_⟩
    rw [hL] at hk
    rw [hat k hk]
    have e1 : ∀ j, ((⟨b, off, none⟩ : Addr).add (k * 3)).add j = ⟨b, off + k * 3 + j, none⟩ := fun j => by
      unfold Addr.add
      by_cases h1 : k * 3 = 0 <;> by_cases h2 : j = 0 <;> simp [h1, h2]
    obtain ⟨y0, g0⟩ := hcell k hk 0 (by omega)
    obtain ⟨y1, g1⟩ := hcell k hk 1 (by omega)
    obtain ⟨y2, g2⟩ := hcell k hk 2 (by omega)
    simp only [rdI, g0, g1, g2]
    rw [e1] at g0 g1 g2
    exact ⟨g0, g1, g2⟩

set_option maxRecDepth 100000 in
/-- A flight, read. -/
theorem open_flight {r : Reach} {b0 : Nat} {v : Value} {d : DataW H} {p : List MemPlace} (hv : Value.okWide Try.prog w r b0 66 v) (h : DataW.Trod enc Try.prog w base spare held 66 v d p) :
    ∃ nm bd a l cap a2 L cap2, v = flV nm bd a l.length cap a2 (List.length (α := P3) L) cap2 ∧ nm.size ≤ maxLen ∧ l.length ≤ cap ∧ cap ≤ maxLen ∧ SlSts w a l ∧ L.length ≤ cap2 ∧ cap2 ≤ maxLen ∧ (L ≠ [] → ∃ b off, a2 = some ⟨b, off, none⟩ ∧ b < w.heap.size ∧ HasCh w b off L) := by
  obtain ⟨cs, rfl, hsz⟩ := okWide_struct Try.underlying66 hv
  obtain ⟨l⟩ := cs
  match l, hsz.trans cells_fl with
  | [c0, c1, c2, c3], _ =>
    obtain ⟨fuel, hf⟩ := h
    obtain ⟨xs, n, _, hx, _, hlen, hg⟩ := DataW.trod_struct Try.underlying66 hf
    match xs, hlen with
    | [y0, y1], _ =>
      have g0 : DataW.trod enc Try.prog w base spare held n 24 [c0, c1, c2] = some y0 := hg 0 _ rfl
      have g1 : DataW.trod enc Try.prog w base spare held n 64 [c3] = some y1 := hg 1 _ rfl
      obtain ⟨xs', n', _, hx', _, hlen', hg'⟩ := DataW.trod_struct Try.underlying24 g0
      match xs', hlen' with
      | [z0, z1, z2], _ =>
        have k0 : DataW.trod enc Try.prog w base spare held n' 9 [c0] = some z0 := hg' 0 _ rfl
        have k1 : DataW.trod enc Try.prog w base spare held n' 3 [c1] = some z1 := hg' 1 _ rfl
        have k2 : DataW.trod enc Try.prog w base spare held n' 22 [c2] = some z2 := hg' 2 _ rfl
        obtain ⟨s, e0, _, hs⟩ := DataW.trod_string Try.underlying9 k0
        obtain ⟨bd, e1, _, hw⟩ := DataW.trod_int Try.underlying3 k1
        obtain ⟨a, l, cap, rfl, hl, hc, hS⟩ := open_sts k2
        obtain ⟨a2, L, cap2, rfl, hl2, hc2, hC⟩ := open_chs g1
        simp only [List.cons.injEq, and_true] at e0 e1
        subst e0
        subst e1
        exact ⟨s, bd, a, l, cap, a2, L, cap2, rfl, hs, hl, hc, hS, hl2, hc2, hC⟩
end
end Go.Proofs.Ytaoennekamlfeaa
