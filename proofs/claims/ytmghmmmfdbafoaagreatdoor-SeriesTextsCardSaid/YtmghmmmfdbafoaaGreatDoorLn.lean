/- Lines of a text: in plain Lean; the iterator of strings.Lines. -/
import Derived.Test.YtmghmmmfdbafoaaGreatDoorFreeSelf
import Derived.Shelf.Small.Strs
import Derived.Test.YtmghmmmfdbafoaaGreatDoorLi
import Derived.Shelf.RegionOpen
import Derived.Lib.Hide
import Derived.ProofKit
import Derived.Test.YtmghmmmfdbafoaaGreatDoor02sh
set_option linter.unusedSimpArgs false
set_option linter.unusedVariables false

namespace Go.Proofs.YtmghmmmfdbafoaaGreatDoor
open Go Go.RowKit Go.Shelf Go.Tx Go.Lib
attribute [local go_sem] Oper.semAt_some
def restB (B : Nat) (w : World) : Nat :=
  match w.heap[B]? with
  | some (Obj.cells cs _ _) => match cs[0]? with
    | some (Value.string s) => s.size
    | _ => 0
  | _ => 0
theorem index_any (s : ByteArray) (w : World) : Calls Tryz.prog 51 #[.string s, .int .u8 10] w fun e w' => e = .returned (.int .i64 (Lib.indexByte s.data.toList 10)) ∧ w' = w :=
  Any.strings_IndexByte Tryz.lays137 s 10 w
set_option maxRecDepth 100000 in
set_option maxHeartbeats 2000000 in
theorem lines_in (m : Nat) (hm : 1 ≤ m) (l : List UInt8) (hl : l.length ≤ 1000000) (B : Nat) (ty : TypeId) (w : World) (n₂ : Nat) (hB : B < w.heap.size) (c0 : Array Value) (hbl : w.heap[B]? = some (.cells c0 ty (0, 0))) (hc0 : c0[0]? = some (.string ⟨l.toArray⟩)) :
    Free.EachAtS B m Tryz.prog 50 #[.pointer (some ⟨B, 0, none⟩)] (fun k => #[.string ⟨((linesOf l).getD k []).toArray⟩]) (linesOf l).length n₂ w := by
  intro lp J Jx W hW hn2 hJ hS hJx hY h0
  have hWz := hW.size
  have hblW := (hW.block B hB).trans hbl
  have HJ := Lib.hid hJ
  have HS := Lib.hid hS
  have HJx := Lib.hid hJx
  have HY := Lib.hid hY
  have H0 := Lib.hid h0
  clear hJ hS hJx hY h0
  refine callsIn_of_wp Tryz.func50 rfl trivial ?_
  simp only [Tryz.ntmps50, List.size_toArray, List.length_cons, List.length_nil, Nat.reduceAdd, Nat.reduceSub, Array.replicate_succ, Array.replicate_zero, List.push_toArray, List.append_toArray, List.nil_append, List.cons_append]
  gi_wp2
  gi_loopw [] (fun wr => ∃ (k : Nat) (r : List UInt8), k ≤ (linesOf l).length ∧ (linesOf l).drop k = linesOf r ∧ r.length ≤ 1000000 ∧ Hid (J k wr) ∧ (∃ c, wr.heap[B]? = some (.cells c ty (0, 0)) ∧ c[0]? = some (.string ⟨r.toArray⟩)) ∧ W.heap.size ≤ wr.heap.size) (fun wr => restB B wr)
  case atStart => exact ⟨0, l, Nat.zero_le _, rfl, hl, H0, ⟨c0, hblW, hc0⟩, Nat.le_refl _⟩
  case round =>
    obtain ⟨k, r, hk, hd, hr, HJk, ⟨c, hbr, hcr⟩, hz⟩ := hrel
    have hcs : 0 < c.size := (Array.getElem?_eq_some_iff.1 hcr).1
    have hc : wr.cell? ⟨B, 0, none⟩ = some (.string ⟨r.toArray⟩) := by simp [World.cell?, hbr, hcr]
    have hfz : wr.frozen? ⟨B, 0, none⟩ = false := by simp [World.frozen?, hbr]
    have hln : (linesOf r).length = (linesOf l).length - k := by rw [← hd, List.length_drop]
    by_cases hr0 : r = []
    · subst hr0
      have hkN : k = (linesOf l).length := by
        have : (linesOf ([] : List UInt8)).length = 0 := rfl
        omega
      gi_wp2
      go_end0
      exact ⟨⟨_, rfl⟩, .inl (hkN ▸ HJk.out)⟩
    · have hpos : 0 < r.length := List.length_pos_iff.2 hr0
      have hlt : decide ((0 : Int) < (r.length : Int)) = true := decide_eq_true (by omega)
      have hge := indexByte_ge r 10
      by_cases hi : indexByte r 10 = -1
      · have hone := lines_none r hi hr0
        have hlen1 : (linesOf r).length = 1 := by rw [hone]; rfl
        have hkN : k < (linesOf l).length := by omega
        have hval : (linesOf l).getD k [] = r := by
          have : ((linesOf l).drop k)[0]? = some r := by rw [hd, hone]; rfl
          rw [List.getElem?_drop, Nat.add_zero] at this
          rw [List.getD_eq_getElem?_getD, this]
          rfl
        have HI : Calls Tryz.prog 51 #[.string ⟨r.toArray⟩, .int .u8 10] wr fun e w' => e = .returned (.int .i64 (-1)) ∧ wr = w' := (index_any ⟨r.toArray⟩ wr).mono fun e w' ⟨he, hw⟩ => ⟨by rw [he, show Lib.indexByte (⟨r.toArray⟩ : ByteArray).data.toList 10 = -1 from hi], hw.symm⟩
        have HYk := HY.out k (wr.setCell ⟨B, 0, none⟩ (.string ⟨#[]⟩)) (HS.out k wr _ HJk.out) hkN
        simp only [hval] at HYk
        obtain ⟨fn, tmps, asg, bdy, hy, hR⟩ := HYk
        gi_wp2_with (refine ⟨trivial, ?_⟩; gi_at_call 51; refine (callsIn_wide.2 HI).mono ?_; rintro e w' ⟨rfl, rfl⟩)
        have hb1 : (wr.setCell ⟨B, 0, none⟩ (.string ⟨#[]⟩)).heap[B]? = some (.cells (c.setIfInBounds 0 (.string ⟨#[]⟩)) ty (0, 0)) := Free.blk_setCell_same hbr _
        have hc1 : (c.setIfInBounds 0 (.string ⟨#[]⟩))[0]? = some (.string ⟨#[]⟩) := by simp [hcs]
        refine hR.mono ?_
        rintro e W3 (⟨rfl, hJ3, hk3, hB3⟩ | ⟨rfl, hJx3⟩)
        · have HJ3 := Lib.hid hJ3
          have hb3 := hB3.trans hb1
          have hs3 : wr.heap.size ≤ W3.heap.size := by simpa using hk3
          clear hJ3 hk3 hB3 hR hy
          gi_wp2
          go_roundw
          case rel => exact ⟨k + 1, [], by omega, (by rw [← List.drop_drop, hd, hone]; rfl), by simp, HJ3, ⟨_, hb3, hc1⟩, by omega⟩
          case measure => 
            have e1 : restB B W3 = 0 := by unfold restB; rw [hb3]; simp only [hc1]; rfl
            have e2 : restB B wr = r.length := by unfold restB; rw [hbr]; simp only [hcr]; rfl
            omega
        · have HJx3 := Lib.hid hJx3
          clear hJx3 hR hy
          gi_wp2
          refine bodyPost_ret (results_none rfl _ _ _) rfl ?_
          exact ⟨⟨_, rfl⟩, .inr ⟨k + 1, by omega, HJx3.out⟩⟩
      · obtain ⟨o, ho⟩ : ∃ o : Nat, indexByte r 10 = o := ⟨(indexByte r 10).toNat, by omega⟩
        have hat := lines_at r o ho
        have hor : o < r.length := by
          have := (indexByte_some ho).1
          exact (List.getElem?_eq_some_iff.1 this).1
        have hlen1 : (linesOf r).length = (linesOf (r.drop (o + 1))).length + 1 := by rw [hat]; rfl
        have hkN : k < (linesOf l).length := by omega
        have hval : (⟨((linesOf l).getD k []).toArray⟩ : ByteArray) = (⟨r.toArray⟩ : ByteArray).extract 0 (o + 1) := by
          have : ((linesOf l).drop k)[0]? = some (r.take (o + 1)) := by rw [hd, hat]; rfl
          rw [List.getElem?_drop, Nat.add_zero] at this
          rw [List.getD_eq_getElem?_getD, this]
          apply ByteArray.ext
          rw [ByteArray.data_extract]
          apply Array.ext'
          simp
        have HI : Calls Tryz.prog 51 #[.string ⟨r.toArray⟩, .int .u8 10] wr fun e w' => e = .returned (.int .i64 o) ∧ wr = w' := (index_any ⟨r.toArray⟩ wr).mono fun e w' ⟨he, hw⟩ => ⟨by rw [he, show Lib.indexByte (⟨r.toArray⟩ : ByteArray).data.toList 10 = o from ho], hw.symm⟩
        have mixed : Tryz.prog.follows .mixedOrders = true := by kernel_rfl
        have hge0 : decide ((0 : Int) ≤ (o : Int)) = true := decide_eq_true (by omega)
        have hsz : (⟨r.toArray⟩ : ByteArray).size = r.length := rfl
        have hrest : ((⟨r.toArray⟩ : ByteArray).extract (o + 1) r.length) = ⟨(r.drop (o + 1)).toArray⟩ := by
          apply ByteArray.ext
          rw [ByteArray.data_extract]
          apply Array.ext'
          simp
          exact List.take_of_length_le (by rw [List.length_drop]; exact Nat.le_refl _)
        have hJ1 := HJ.out k (wr.setCell ⟨B, 0, none⟩ (.string ⟨(r.drop (o + 1)).toArray⟩)) ((wr.setCell ⟨B, 0, none⟩ (.string ⟨(r.drop (o + 1)).toArray⟩)).drew) (HS.out k wr _ HJk.out) ((Below.refl _ _).drew)
        have HYk := HY.out k _ hJ1 hkN
        simp only [hval] at HYk
        obtain ⟨fn, tmps, asg, bdy, hy, hR⟩ := HYk
        clear hJ1
        gi_wp2_with (refine ⟨trivial, ?_⟩; gi_at_call 51; refine (callsIn_wide.2 HI).mono ?_; rintro e w' ⟨rfl, rfl⟩)
        gi_region
        gi_wp2
        have hb1 : ((wr.setCell ⟨B, 0, none⟩ (.string ⟨(r.drop (o + 1)).toArray⟩)).drew).heap[B]? = some (.cells (c.setIfInBounds 0 (.string ⟨(r.drop (o + 1)).toArray⟩)) ty (0, 0)) := Free.blk_setCell_same hbr _
        have hc1 : (c.setIfInBounds 0 (.string ⟨(r.drop (o + 1)).toArray⟩))[0]? = some (.string ⟨(r.drop (o + 1)).toArray⟩) := by simp [hcs]
        refine hR.mono ?_
        rintro e W3 (⟨rfl, hJ3, hk3, hB3⟩ | ⟨rfl, hJx3⟩)
        · have HJ3 := Lib.hid hJ3
          have hb3 := hB3.trans hb1
          have hs3 : wr.heap.size ≤ W3.heap.size := by simpa using hk3
          clear hJ3 hk3 hB3 hR hy
          gi_wp2
          go_roundw
          case rel => exact ⟨k + 1, r.drop (o + 1), by omega, (by rw [← List.drop_drop, hd, hat]; rfl), (by rw [List.length_drop]; omega), HJ3, ⟨_, hb3, hc1⟩, by omega⟩
          case measure =>
            have e1 : restB B W3 = (r.drop (o + 1)).length := by unfold restB; rw [hb3]; simp only [hc1]; rfl
            have e2 : restB B wr = r.length := by unfold restB; rw [hbr]; simp only [hcr]; rfl
            rw [List.length_drop] at e1
            omega
        · have HJx3 := Lib.hid hJx3
          clear hJx3 hR hy
          gi_wp2
          refine bodyPost_ret (results_none rfl _ _ _) rfl ?_
          exact ⟨⟨_, rfl⟩, .inr ⟨k + 1, by omega, HJx3.out⟩⟩
end Go.Proofs.YtmghmmmfdbafoaaGreatDoor
