/- ch 16: a builder in a block of its own. -/
import Derived.Test.YtellmfimmghidaaGreatNumT
namespace Go.Proofs.YtellmfimmghidaaGreat
set_option linter.unusedSimpArgs false
open Go.RowKit
set_option linter.unusedVariables false
theorem liesBB : liesAt Tryz.prog Tryz.prog.depth 104 (2 / Tryz.prog.cellsOf 104) 0 104 1 = true := by kernel_rfl
section
variable {W : World}
set_option maxRecDepth 100000 in
set_option maxHeartbeats 1000000 in
theorem bs_used (b : Nat) (h0 : W.cell? ⟨b, 0, none⟩ = some (.pointer (some ⟨b, 0, none⟩))) :
    Calls Tryz.prog 143 #[.pointer (some ⟨b, 0, none⟩)] W fun e w' => e = .returned (.tuple #[]) ∧ w' = W := by
  obtain ⟨j, hj, _⟩ := Option.map_eq_some_iff.1 infoTB
  go_enter Tryz.func143, Tryz.ntmps143
  go_wp2
  rw [Lib.run_neq_ptr_same W _ Tryz.underlying102 hj]
  go_wp2
  go_end0
  exact ⟨rfl, rfl⟩
set_option maxRecDepth 100000 in
set_option maxHeartbeats 1000000 in
theorem bs_fresh (b : Nat) (h0 : W.cell? ⟨b, 0, none⟩ = some (.pointer none)) (hsh : W.shape? b = some (104, 2)) (hfz : W.frozen? ⟨b, 0, none⟩ = false) :
    Calls Tryz.prog 143 #[.pointer (some ⟨b, 0, none⟩)] W fun e w' => e = .returned (.tuple #[]) ∧ w' = W.setCell ⟨b, 0, none⟩ (.pointer (some ⟨b, 0, none⟩)) := by
  obtain ⟨j, hj, hjs⟩ := Option.map_eq_some_iff.1 infoTB
  go_enter Tryz.func143, Tryz.ntmps143
  go_wp2
  rw [Lib.run_to_unsafe W ⟨b, 0, none⟩ Tryz.underlying102 Tryz.underlying214 hj (by rw [hjs]; decide) hsh (show 0 < 2 by decide)]
  simp only [Result.andThen]
  rw [Oper.upon_value]
  go_wp2
  rw [run_callFunc_extern Tryz.func157 (by kernel_rfl) (by kernel_rfl) (by kernel_rfl) (e := Extern.AbiNoEscape.same) (by kernel_rfl)]
  rw [Lib.run_noEscape]
  simp only [Result.andThen]
  rw [Oper.upon_value]
  go_wp2
  rw [Lib.run_from_unsafe W ⟨b, 0, none⟩ Tryz.underlying214 Tryz.underlying102 hj hsh liesBB]
  simp only [Result.andThen]
  rw [Oper.upon_value]
  go_wp2
  go_end0
  exact ⟨rfl, rfl⟩
set_option maxRecDepth 100000 in
set_option maxHeartbeats 2000000 in
theorem bs_string (b : Nat) (v : Value) (l : List UInt8) (c0 : W.cell? ⟨b, 1, none⟩ = some v) (hown : W.ownsRow 0 5 1 v l.length (Lib.byteCells l)) :
    Calls Tryz.prog 58 #[.pointer (some ⟨b, 0, none⟩)] W fun e w' => e = .returned (.string ⟨l.toArray⟩) ∧ Outside v.ownBlock.toList W w' := by
  have hcb : Tryz.prog.cellsOf 5 = 1 := by kernel_rfl
  cases l with
  | nil =>
    have hUS : ∀ (W : World) (q : Option Addr), (Builtin.unsafeString_ #[154, 3] 9 #[.pointer q, .int .i64 0]).run Tryz.prog W = .ok (.string .empty) W := fun W q => Lib.run_unsafeString_none W _ _ _ q
    rcases hown.2 with ⟨rfl, _⟩ | ⟨g, cap, cur, rfl, hbg, hg, _, _, _, _⟩
    · have c1 : W.drew.cell? ⟨b, 1, none⟩ = some (.slice none 0 0) := c0
      have hSD : (Builtin.unsafeSliceData_ #[47] 154 #[.slice none 0 0]).run Tryz.prog W.drew = .ok (.pointer none) W.drew := rfl
      clear c0 hown hcb
      go_enter Tryz.func58, Tryz.ntmps58
      go_wp2
      go_region
      all_goals (go_wp2; go_ret; exact ⟨rfl, Outside.drew (Outside.refl _ _)⟩)
    · by_cases hc0 : cap = 0
      · subst hc0
        have hSD : (Builtin.unsafeSliceData_ #[47] 154 #[.slice (some ⟨g, 0, none⟩) 0 0]).run Tryz.prog W.drew = .ok (.pointer (some ⟨W.drew.heap.size, 0, none⟩)) (W.drew.alloc (.view ⟨g, 0, none⟩ 5)) :=
          Lib.run_unsafeSliceData_zero W.drew _ _ 5 Tryz.underlying154 ⟨g, 0, none⟩ 0 (5, cur.size) (by have hg' : W.drew.heap[g]? = some (.cells cur 5 (0, 0)) := hg; simp [World.shape?, hg'])
        have c1 : W.drew.cell? ⟨b, 1, none⟩ = some (.slice (some ⟨g, 0, none⟩) 0 0) := c0
        have c2 : (W.drew.alloc (.view ⟨g, 0, none⟩ 5)).cell? ⟨b, 1, none⟩ = some (.slice (some ⟨g, 0, none⟩) 0 0) := cellAlloc c1 _
        have c3 : (W.alloc (.view ⟨g, 0, none⟩ 5)).drew.cell? ⟨b, 1, none⟩ = some (.slice (some ⟨g, 0, none⟩) 0 0) := c2
        clear hown hcb hg hbg
        go_enter Tryz.func58, Tryz.ntmps58
        go_wp2
        go_region
        all_goals (go_wp2; go_ret; exact ⟨rfl, Outside.alloc (Outside.drew (Outside.refl _ _)) _⟩)
      · have c1 : W.drew.cell? ⟨b, 1, none⟩ = some (.slice (some ⟨g, 0, none⟩) 0 cap) := c0
        have hSD : (Builtin.unsafeSliceData_ #[47] 154 #[.slice (some ⟨g, 0, none⟩) 0 cap]).run Tryz.prog W.drew = .ok (.pointer (some ⟨g, 0, none⟩)) W.drew := Lib.run_unsafeSliceData_row _ _ _ _ _ _ hc0
        clear c0 hown hcb hg hbg hc0
        go_enter Tryz.func58, Tryz.ntmps58
        go_wp2
        go_region
        all_goals (go_wp2; go_ret; exact ⟨rfl, Outside.drew (Outside.refl _ _)⟩)
  | cons x r =>
    have h0 : x :: r ≠ [] := by simp
    have hl0 : (x :: r).length ≠ 0 := by simp
    generalize x :: r = l at h0 hl0 hown
    obtain ⟨g, cap, cur, rfl, hbg, hg, hnc, hcm, hcs, htake⟩ : ∃ g cap cur, v = .slice (some ⟨g, 0, none⟩) l.length cap ∧ 0 ≤ g ∧ W.heap[g]? = some (.cells cur 5 (0, 0)) ∧ l.length ≤ cap ∧ cap ≤ maxLen ∧ cur.size = cap * 1 ∧ cur.toList.take (l.length * 1) = Lib.byteCells l := by
      rcases hown.2 with ⟨_, hz⟩ | ⟨g, cap, cur, hv, r⟩
      · exact absurd hz hl0
      · exact ⟨g, cap, cur, hv, r⟩
    have c1 : W.drew.cell? ⟨b, 1, none⟩ = some (.slice (some ⟨g, 0, none⟩) l.length cap) := c0
    have hSD : (Builtin.unsafeSliceData_ #[47] 154 #[.slice (some ⟨g, 0, none⟩) l.length cap]).run Tryz.prog W.drew = .ok (.pointer (some ⟨g, 0, none⟩)) W.drew := Lib.run_unsafeSliceData_row _ _ _ _ _ _ (by omega)
    have hUS : (Builtin.unsafeString_ #[154, 3] 9 #[.pointer (some ⟨g, 0, none⟩), .int .i64 l.length]).run Tryz.prog W.drew = .ok (.string ⟨l.toArray⟩) (W.drew.freeze ⟨g, 0, none⟩ l.length) := by
      refine Lib.run_unsafeString_row W.drew 154 3 9 5 Tryz.underlying154 hcb g cur.size (by have hg' : W.drew.heap[g]? = some (.cells cur 5 (0, 0)) := hg; simp [World.shape?, hg']) l h0 (by omega) (by unfold maxLen at hcm; omega) ?_
      intro j x hx
      have := hown.cells (g := g) rfl j (.int .u8 x.toNat) (by simp [Lib.byteCells, hx])
      exact this
    clear c0 hown hcb hg hbg hcs htake hl0 h0
    go_enter Tryz.func58, Tryz.ntmps58
    go_wp2
    go_region
    all_goals (go_wp2; go_ret; exact ⟨rfl, outFreeze (Outside.drew (Outside.refl _ _)) (by simp [Value.ownBlock]) _⟩)
end
abbrev bldB (p v : Value) : Obj := .cells #[p, v] 104
section
variable {w W : World} {Rs : List Res}
/-- A builder and its bytes. -/
def Bld (w : World) (b : Nat) (l : List UInt8) (Rs : List Res) (W : World) : Prop := ∃ p v : Value, (p = .pointer none ∨ p = .pointer (some ⟨b, 0, none⟩)) ∧ Sep w (boxR b (bldB p v) :: bytesR v l :: Rs) W
theorem Bld.made (S : Sep w Rs W) : Bld w W.heap.size [] Rs (W.alloc (bldB (.pointer none) (.slice none 0 0))) :=
  ⟨.pointer none, .slice none 0 0, .inl rfl, ((S.alloc (bldB (.pointer none) (.slice none 0 0))).addRow (Below.refl _ _) (World.ownsRow_nil _ _ _ _) (by simp [Value.ownBlock]) : Sep w (bytesR (.slice none 0 0) [] :: boxR W.heap.size _ :: Rs) _).swap⟩
theorem bs_check {b : Nat} {p v : Value} {l : List UInt8} (hp : p = .pointer none ∨ p = .pointer (some ⟨b, 0, none⟩)) (S : Sep w (boxR b (bldB p v) :: bytesR v l :: Rs) W) :
    Calls Tryz.prog 143 #[.pointer (some ⟨b, 0, none⟩)] W fun e w' => e = .returned (.tuple #[]) ∧ Sep w (boxR b (bldB (.pointer (some ⟨b, 0, none⟩)) v) :: bytesR v l :: Rs) w' := by
  have hb := S.box 0 rfl
  rcases hp with rfl | rfl
  · refine (bs_fresh b (cellAt hb 0 rfl) (by simp [World.shape?, hb]) (frozenAt hb 0)).mono ?_
    rintro e w' ⟨rfl, rfl⟩
    exact ⟨rfl, S.setBox 0 rfl 0 _⟩
  · refine (bs_used b (cellAt hb 0 rfl)).mono ?_
    rintro e w' ⟨rfl, rfl⟩
    exact ⟨rfl, S⟩
theorem bytes_own {v : Value} {l : List UInt8} : (l.flatMap byteCell) = Lib.byteCells l := by
  induction l with
  | nil => rfl
  | cons a l ih => rw [List.flatMap_cons, ih]; rfl
set_option maxRecDepth 100000 in
set_option maxHeartbeats 2000000 in
theorem bs_write {b : Nat} {l : List UInt8} (S : Bld w b l Rs W) (s : ByteArray) (hl : l.length + s.size ≤ 9000000) :
    Calls Tryz.prog 125 #[.pointer (some ⟨b, 0, none⟩), .string s] W fun e w' => e = .returned (.tuple #[.int .i64 s.size, .nilIface]) ∧ Bld w b (l ++ s.data.toList) Rs w' := by
  obtain ⟨p, v, hp, S⟩ := S
  have KC := Lib.hid (bs_check hp S)
  clear S
  go_enter Tryz.func125, Tryz.ntmps125
  go_wp2_with fail
  refine KC.out.mono ?_
  rintro e w1 ⟨rfl, S⟩
  have c1 := cellAt (S.box 0 rfl) 1 (v := v) rfl
  have hrow := S.row 1 rfl
  have hown : w1.ownsRow 0 5 1 v l.length (Lib.byteCells l) := by have h := hrow; unfold slIs at h; rw [bytes_own (v := v)] at h; exact h
  obtain ⟨v', w2, hr, hown', hgrow, hat⟩ := append_str_at hown s (by omega) 47
  have S2 : Sep w (boxR b (bldB (.pointer (some ⟨b, 0, none⟩)) v) :: bytesR v' (l ++ s.data.toList) :: Rs) w2 := by
    have := S.grown 1 rfl (v' := v') (l' := l ++ s.data.toList) (by
      unfold slIs
      rw [bytes_own (v := v), Lib.byteCells_append, List.length_append]
      exact hown') hgrow hat
    exact this
  have c2 := cellAt (S2.box 0 rfl) 1 (v := v) rfl
  have f2 := frozenAt (S2.box 0 rfl) 1
  obtain ⟨ao, n', cap, rfl⟩ : ∃ ao n' cap, v' = .slice ao n' cap := by
    rcases hown'.2 with ⟨hv, _⟩ | ⟨g, cap, cur, hv, _⟩
    · exact ⟨_, _, _, hv⟩
    · exact ⟨_, _, _, hv⟩
  have HN := Lib.hid (And.intro hr S2)
  clear hr S2 S hrow hown hown' hgrow hat KC
  go_wp2_with (at_builtin; refine Lib.wpList_append_run _ rfl _ _ _ _ rfl _ _ rfl rfl _ _ HN.out.1 ?_)
  go_wp2
  go_ret2
  exact ⟨rfl, _, _, .inr rfl, HN.out.2.setBox 0 rfl 1 _⟩
set_option maxRecDepth 100000 in
set_option maxHeartbeats 2000000 in
theorem bs_byte {b : Nat} {l : List UInt8} (S : Bld w b l Rs W) (c : UInt8) (ci : Int) (hc : ci = c.toNat) (hl : l.length + 1 ≤ 9000000) :
    Calls Tryz.prog 145 #[.pointer (some ⟨b, 0, none⟩), .int .u8 ci] W fun e w' => e = .returned .nilIface ∧ Bld w b (l ++ [c]) Rs w' := by
  subst hc
  obtain ⟨p, v, hp, S⟩ := S
  have KC := Lib.hid (bs_check hp S)
  clear S
  go_enter Tryz.func145, Tryz.ntmps145
  go_wp2_with fail
  refine KC.out.mono ?_
  rintro e w1 ⟨rfl, S⟩
  have c1 := cellAt (S.box 0 rfl) 1 (v := v) rfl
  have S2 := S.alloc (.cells #[.int .u8 c.toNat] 5)
  have hone := Lib.hid (sees_one (f := byteCell) (m := 1) (y := c) (heapAllocNew w1 (.cells #[.int .u8 c.toNat] 5)) rfl)
  replace S2 := Lib.hid S2
  clear S KC
  go_wp2_with (at_builtin; refine wpList_append_rows rfl _ _ 47 5 rfl Tryz.underlying47 _ 1 infoU8 rfl (by decide) (by decide) (fun _ => rfl) byteCell_one S2.out 2 rfl rfl _ [c] rfl hone.out (by simp; omega) ?_)
  intro va vc w2 S3
  have c2 := cellAt (S3.box 1 rfl) 1 (v := v) rfl
  have f2 := frozenAt (S3.box 1 rfl) 1
  have H3 := Lib.hid S3.tail
  clear S3 S2 hone c1
  go_wp2
  go_ret
  exact ⟨rfl, _, _, .inr rfl, H3.out.setBox 0 rfl 1 _⟩
theorem bs_end {b : Nat} {l : List UInt8} (S : Bld w b l Rs W) :
    Calls Tryz.prog 58 #[.pointer (some ⟨b, 0, none⟩)] W fun e w' => e = .returned (.string ⟨l.toArray⟩) ∧ Sep w Rs w' := by
  obtain ⟨p, v, hp, S⟩ := S
  have hrow := S.row 1 rfl
  have hown : W.ownsRow 0 5 1 v l.length (Lib.byteCells l) := by have h := hrow; unfold slIs at h; rw [bytes_own (v := v)] at h; exact h
  refine (bs_string b v l (cellAt (S.box 0 rfl) 1 rfl) hown).mono fun e w' ⟨h1, h2⟩ => ⟨h1, ?_⟩
  have := S.turn (R' := ⟨fun _ F => F = [], fun h _ => h, fun h b hb => by rw [h] at hb; cases hb⟩) (W' := w') 1 rfl fun F hF hn _ =>
    ⟨[], rfl, List.nodup_nil, (fun b hb => by cases hb), h2.mono (by rw [hF.2]; intro b hb; exact hb)⟩
  exact this.tail.tail
end
end Go.Proofs.YtellmfimmghidaaGreat
