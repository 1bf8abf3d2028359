/- linear: All. -/
import Derived.Test.YtkocenlglodklaaLin4
import Derived.OwnWalk
namespace Go.Proofs.Ytkocenlglodklaa
set_option linter.unusedSimpArgs false
open Go.RowKit
set_option linter.unusedVariables false
/-- The order of a class, by its number. -/
def ordOf (O : List (List Int)) (b : Int) : List Int := (O[b.toNat]?).getD []
/-- One class more, or none. -/
def stepM (O : List (List Int)) (r : List Int) : Option (List (List Int)) :=
  if r.all (fun b => decide (0 ≤ b ∧ b < (O.length : Int))) = true then
    match mergeM (r.map (ordOf O) ++ [r]) with
    | some l => if (O.length : Int) ∈ l then none else some (O ++ [(O.length : Int) :: l])
    | none => none
  else none
def allF : List (List Int) → List (List Int) → Option (List (List Int))
  | O, [] => some O
  | O, r :: rs => (stepM O r).bind fun O' => allF O' rs
def allM (rows : List (List Int)) : Option (List (List Int)) := allF [] rows
theorem allF_append (rs qs : List (List Int)) : ∀ O, allF O (rs ++ qs) = (allF O rs).bind fun O' => allF O' qs := by
  induction rs with
  | nil => intro O; rfl
  | cons a rs ih =>
    intro O
    simp only [List.cons_append, allF]
    cases stepM O a with
    | none => rfl
    | some O' => exact ih O'
theorem allF_one (O : List (List Int)) (r : List Int) : allF O [r] = stepM O r := by
  simp only [allF]
  cases stepM O r <;> rfl
theorem allM_snoc (rows : List (List Int)) (r : List Int) : allM (rows ++ [r]) = (allM rows).bind fun O => stepM O r := by
  unfold allM
  rw [allF_append]
  simp only [allF_one]
theorem allM_take {rows : List (List Int)} {k : Nat} {O : List (List Int)} {r : List Int} (h : allM (rows.take k) = some O) (hr : rows[k]? = some r) : allM (rows.take (k + 1)) = stepM O r := by
  have e : rows.take (k + 1) = rows.take k ++ [r] := by rw [List.take_add_one, hr]; rfl
  rw [e, allM_snoc, h]; rfl
theorem allM_no {rows : List (List Int)} {k : Nat} {O : List (List Int)} {r : List Int} (h : allM (rows.take k) = some O) (hr : rows[k]? = some r) (hn : stepM O r = none) : allM rows = none := by
  have h2 := allM_take h hr
  have e : rows = rows.take (k + 1) ++ rows.drop (k + 1) := (List.take_append_drop _ _).symm
  rw [e]
  unfold allM at h2 ⊢
  rw [allF_append, h2, hn]; rfl
theorem stepM_some {O O' : List (List Int)} {r : List Int} (h : stepM O r = some O') : (∀ b ∈ r, 0 ≤ b ∧ b < (O.length : Int)) ∧ ∃ l, mergeM (r.map (ordOf O) ++ [r]) = some l ∧ (O.length : Int) ∉ l ∧ O' = O ++ [(O.length : Int) :: l] := by
  unfold stepM at h
  by_cases hc : r.all (fun b => decide (0 ≤ b ∧ b < (O.length : Int))) = true
  · rw [if_pos hc] at h
    refine ⟨fun b hb => by simpa using List.all_eq_true.1 hc b hb, ?_⟩
    cases hm : mergeM (r.map (ordOf O) ++ [r]) with
    | none => rw [hm] at h; simp at h
    | some l =>
      rw [hm] at h
      simp only at h
      by_cases hx : (O.length : Int) ∈ l
      · rw [if_pos hx] at h; simp at h
      · rw [if_neg hx] at h; exact ⟨l, rfl, hx, (Option.some.inj h).symm⟩
  · rw [if_neg hc] at h; simp at h
theorem stepM_yes {O : List (List Int)} {r l : List Int} (h1 : ∀ b ∈ r, 0 ≤ b ∧ b < (O.length : Int)) (h2 : mergeM (r.map (ordOf O) ++ [r]) = some l) (h3 : (O.length : Int) ∉ l) : stepM O r = some (O ++ [(O.length : Int) :: l]) := by
  unfold stepM
  rw [if_pos (List.all_eq_true.2 fun b hb => by simpa using h1 b hb), h2]
  simp only
  rw [if_neg h3]
theorem stepM_bad {O : List (List Int)} {r : List Int} {b : Int} (hb : b ∈ r) (h : ¬ (0 ≤ b ∧ b < (O.length : Int))) : stepM O r = none := by
  unfold stepM
  rw [if_neg]
  intro hc
  exact h (by simpa using List.all_eq_true.1 hc b hb)
theorem stepM_none {O : List (List Int)} {r : List Int} (h : ∀ l, mergeM (r.map (ordOf O) ++ [r]) = some l → (O.length : Int) ∈ l) : stepM O r = none := by
  unfold stepM
  split
  · cases hm : mergeM (r.map (ordOf O) ++ [r]) with
    | none => rfl
    | some l => simp only; rw [if_pos (h l hm)]
  · rfl
/-- Orders have each number once, and none that comes later. -/
def OrdOk (O : List (List Int)) : Prop := ∀ (j : Nat) (r : List Int), O[j]? = some r → r.Nodup ∧ ∀ x ∈ r, 0 ≤ x ∧ x ≤ (j : Int)
theorem nodup_below {l : List Int} (h : l.Nodup) {n : Nat} (hb : ∀ x ∈ l, 0 ≤ x ∧ x < (n : Int)) : l.length ≤ n := by
  have := List.Nodup.length_le_of_subset h (l₂ := (List.range n).map fun (k : Nat) => (k : Int)) (fun x hx => List.mem_map.2 ⟨x.toNat, by simp; have := hb x hx; omega, by have := hb x hx; omega⟩)
  simpa using this
theorem OrdOk.len {O : List (List Int)} (h : OrdOk O) (b : Int) : (ordOf O b).length ≤ O.length := by
  unfold ordOf
  cases g : O[b.toNat]? with
  | none => simp
  | some r =>
    have h1 := h _ r g
    have h2 := (List.getElem?_eq_some_iff.1 g).1
    exact nodup_below h1.1 (n := O.length) fun x hx => by have := h1.2 x hx; omega
theorem OrdOk.mem {O : List (List Int)} (h : OrdOk O) {b x : Int} (hx : x ∈ ordOf O b) : 0 ≤ x ∧ x < (O.length : Int) := by
  unfold ordOf at hx
  cases g : O[b.toNat]? with
  | none => rw [g] at hx; simp at hx
  | some r =>
    rw [g] at hx
    have h1 := (h _ r g).2 x hx
    have h2 := (List.getElem?_eq_some_iff.1 g).1
    omega
theorem OrdOk.merged {O : List (List Int)} (h : OrdOk O) {r l : List Int} (h1 : ∀ b ∈ r, 0 ≤ b ∧ b < (O.length : Int)) (h2 : mergeM (r.map (ordOf O) ++ [r]) = some l) : ∀ x ∈ l, 0 ≤ x ∧ x < (O.length : Int) := fun x hx => by
  obtain ⟨q, hq, hxq⟩ := (mem_merge _ l h2 x).1 hx
  rcases List.mem_append.1 hq with hq | hq
  · obtain ⟨b, hb, rfl⟩ := List.mem_map.1 hq
    exact h.mem hxq
  · simp at hq; subst hq; exact h1 x hxq
theorem OrdOk.snoc {O : List (List Int)} (h : OrdOk O) {r l : List Int} (h1 : ∀ b ∈ r, 0 ≤ b ∧ b < (O.length : Int)) (h2 : mergeM (r.map (ordOf O) ++ [r]) = some l) : OrdOk (O ++ [(O.length : Int) :: l]) := by
  have hm := h.merged h1 h2
  intro j q hq
  by_cases hj : j < O.length
  · rw [List.getElem?_append_left hj] at hq
    exact h j q hq
  · rw [List.getElem?_append_right (by omega)] at hq
    cases e : j - O.length with
    | zero =>
      rw [e] at hq
      simp at hq
      subst hq
      obtain rfl : j = O.length := by omega
      refine ⟨List.nodup_cons.2 ⟨fun hx => by have := hm _ hx; omega, merge_nodup _ l h2⟩, fun x hx => ?_⟩
      rcases List.mem_cons.1 hx with e | e
      · subst e; omega
      · have := hm x e; omega
    | succ j => rw [e] at hq; simp at hq
theorem allF_ok : ∀ (rs O O' : List (List Int)), OrdOk O → allF O rs = some O' → OrdOk O' ∧ O'.length = O.length + rs.length := by
  intro rs
  induction rs with
  | nil => intro O O' h e; cases e; exact ⟨h, rfl⟩
  | cons r rs ih =>
    intro O O' h e
    simp only [allF] at e
    cases hs : stepM O r with
    | none => rw [hs] at e; simp at e
    | some O1 =>
      rw [hs] at e
      obtain ⟨h1, l, h2, h3, rfl⟩ := stepM_some hs
      have := ih _ O' (h.snoc h1 h2) e
      refine ⟨this.1, ?_⟩
      rw [this.2]; simp; omega
theorem allM_ok {rows O : List (List Int)} (h : allM rows = some O) : OrdOk O ∧ O.length = rows.length := by
  have := allF_ok rows [] O (fun j r hj => by simp at hj) h
  exact ⟨this.1, by rw [this.2]; simp⟩
theorem OrdOk.size {O : List (List Int)} (h : OrdOk O) (r : List Int) : sizeM (r.map (ordOf O)) ≤ r.length * O.length := by
  induction r with
  | nil => simp [sizeM]
  | cons b r ih =>
    have := h.len b
    rw [List.map_cons, sizeM_cons, List.length_cons, Nat.succ_mul]; omega
abbrev intsA (v : Value) (l : List Int) : Res := rowR 3 1 intCell v l
abbrev slxR (v : Value) (l : List SlV) : Res := rowR 23 1 slCellN v l
theorem info_intA : (Try.prog.info? 3).map (fun i => (i.zero, i.size, i.bytes)) = some (some (.int .i64 0), 1, 8) := by kernel_rfl
theorem info_slx : (Try.prog.info? 23).map (fun i => (i.zero, i.size, i.bytes)) = some (some (.slice none 0 0), 1, 24) := by kernel_rfl
theorem seesN_R {w : World} {sv : Value} {l : List Int} (h : SeesR intCell 1 w sv l) : SeesN w sv l := by
  obtain ⟨a, c, e, h1, h2, h3⟩ := h
  refine ⟨a, c, e, h1, h2, ?_⟩
  rcases h3 with h | ⟨g, o, e, h⟩
  · exact .inl h
  · exact .inr ⟨g, o, e, fun i n hn => by have := h i n hn 0 (.int .i64 n) rfl; simpa using this⟩
theorem intCell_one (p : Int) : ∀ u ∈ intCell p, u.oneCell' = true := by intro u hu; simp [intCell] at hu; subst hu; rfl
def AllDone (w : World) (Rs : List Res) (r : Option (List (List Int))) (e : Ending) (W : World) : Prop :=
  match r with
  | some O => ∃ (Ns : List Res) (svs : List SlV) (a : Option Addr) (c : Nat), e = .returned (.tuple #[.slice a svs.length c, .bool true]) ∧ RowsIn (Sep w Ns) svs O ∧ Sep w (slxR (.slice a svs.length c) svs :: (Ns ++ Rs)) W
  | none => e = .returned (.tuple #[.slice none 0 0, .bool false]) ∧ Sep w Rs W
section
variable {w W : World} {Rs : List Res}
theorem Sep.nilRow (S : Sep w Rs W) {α : Type} (e : TypeId) (m : Nat) (f : α → List Value) : Sep w (rowR e m f (.slice none 0 0) [] :: Rs) W :=
  S.addRow (Below.refl _ _) (World.ownsRow_nil _ _ _ _) (by simp [Value.ownBlock])
/-- The cell of an element of a slice of slices. -/
theorem SeesR.slot {W : World} {a : Option Addr} {n c : Nat} {svs : List SlV} (h : SeesR slCellN 1 W (.slice a n c) svs) {k : Nat} {sv : SlV} (hk : svs[k]? = some sv) : ∃ g o, a = some ⟨g, o, none⟩ ∧ W.cell? ⟨g, o + k, none⟩ = some sv.val := by
  obtain ⟨_, _, e, _, _, hh⟩ := h
  cases e
  rcases hh with hh | ⟨g, o, hh, hc⟩
  · subst hh; simp at hk
  · exact ⟨g, o, hh, by have := hc k sv hk 0 sv.val rfl; simpa using this⟩
set_option maxRecDepth 100000 in
set_option maxHeartbeats 12800000 in
theorem all_ok (S : Sep w Rs W) (a : Option Addr) (c : Nat) (ivs : List SlV) (rows : List (List Int)) (hs : ∀ W', Sep w Rs W' → SeesR slCellN 1 W' (.slice a ivs.length c) ivs) (hr : RowsIn (Sep w Rs) ivs rows) (hl : rows.length ≤ 100) (hz : ∀ r ∈ rows, r.length ≤ 100) :
    Calls Try.prog 39 #[.slice a ivs.length c] W (AllDone w Rs (allM rows)) := by
  have hil : ivs.length ≤ 100 := by have := hr.1; omega
  have hili : (ivs.length : Int) ≤ 100 := by omega
  have HIN := Lib.hid (And.intro hs (And.intro hr (And.intro hl hz)))
  obtain ⟨i0, hi, iz0, iz1, iz2⟩ := info_parts info_slx
  have hb2 : i0.bytes * ivs.length ≤ 281474976710656 := by rw [iz2]; exact Nat.le_trans (Nat.mul_le_mul_left 24 hil) (by omega)
  have hb3 : ivs.length ≤ maxLen := Nat.le_trans hil (by simp [maxLen])
  have HMK := Lib.hid (And.intro hb2 (And.intro hb3 (And.intro hi (And.intro iz0 iz1))))
  have S0 := Lib.hid S
  clear S hs hr hl hz hb2 hb3 hi iz0 iz1 iz2 hil
  go_enter Try.func39, Try.ntmps39
  go_wp2_with (at_make; refine wpList_make_own W rfl _ _ 22 rfl 0 23 i0 _ 1 Try.underlying22 HMK.out.2.2.1 HMK.out.2.2.2.1 HMK.out.2.2.2.2 _ _ _ ivs.length rfl rfl rfl HMK.out.1 HMK.out.2.1 (Nat.zero_le _) ?_)
  intro w1 hown hgr
  have hB : Below W.heap.size W w1 := Outside.below_of (Below.refl _ _) (Outside.of_grown hgr) (by simp) (Nat.le_refl _)
  have S1 := S0.out.addRow hB (e := 23) (m := 1) (f := slCellN) (v := .slice (some ⟨W.heap.size, 0, none⟩) 0 ivs.length) (l := []) hown (by simp [Value.ownBlock])
  have S2 : Hid (Sep w (slnR (.slice none 0 0) [] :: slxR (.slice (some ⟨W.heap.size, 0, none⟩) 0 ivs.length) [] :: ([] ++ Rs)) w1) := Lib.hid (S1.nilRow _ _ _)
  clear hown hgr hB HMK S0 S1
  obtain ⟨b0, hb0⟩ : ∃ gx_, (W.heap.size) = gx_ := ⟨_, rfl⟩
  rw [hb0] at S2
  go_wp2
  try rw [hb0]
  clear hb0
  go_loopw [4, 5, 22] (fun ov tv iv wr => ∃ (k : Nat) (O : List (List Int)) (Ns : List Res) (svs svx : List SlV), k ≤ ivs.length ∧ iv = .int .i64 k ∧ allM (rows.take k) = some O ∧ RowsIn (Sep w (Ns ++ Rs)) svs O ∧ RowsIn (Sep w Ns) svx O ∧ Sep w (slnR ov svs :: slxR tv svx :: (Ns ++ Rs)) wr) (fun _ _ iv _ => ivs.length - (intOf iv).toNat)
  case atStart => exact ⟨0, [], [], [], [], by omega, rfl, rfl, ⟨rfl, by simp⟩, ⟨rfl, by simp⟩, S2.out⟩
  case round =>
    clear S2
    obtain ⟨k, O, Ns, svs, svx, hk, rfl, hal, hr1, hr2, S3⟩ := hrel
    obtain ⟨oa, oc, hov⟩ := (S3.row 0 rfl).form
    obtain ⟨ta, tc, htv⟩ := (S3.row 1 rfl).form
    rw [hov, htv] at S3
    rw [hov, htv]
    clear hov htv
    have FR : Hid (∀ W (X : List Res), Sep w (X ++ (Ns ++ Rs)) W → Sep w Rs W) := Lib.hid fun W X S => S.sub ((List.sublist_append_right Ns Rs).trans (List.sublist_append_right X _))
    have FN : Hid (∀ W (X : List Res), Sep w (X ++ (Ns ++ Rs)) W → Sep w (Ns ++ Rs) W) := Lib.hid fun W X S => S.sub (List.sublist_append_right X _)
    have hOL : O.length = k := by
      rw [(allM_ok hal).2, List.length_take]
      have := HIN.out.2.1.1
      omega
    have HO := Lib.hid (And.intro hal (And.intro hr1 (And.intro hr2 (And.intro hOL (allM_ok hal).1))))
    by_cases hlt : k < ivs.length
    · obtain ⟨sv, hsv⟩ : ∃ sv, ivs[k]? = some sv := ⟨ivs[k], by simp [hlt]⟩
      obtain ⟨r, hr⟩ : ∃ r, rows[k]? = some r := ⟨rows[k]'(by rw [← HIN.out.2.1.1]; exact hlt), by simp⟩
      have HRW : Hid (∀ W', Sep w Rs W' → SeesN W' sv.val r) := Lib.hid (HIN.out.2.1.2 k sv r hsv hr)
      obtain ⟨ra, rn, rc⟩ := sv
      have SR := FR.out _ [_, _] S3
      have hrn : rn = r.length := by
        obtain ⟨_, _, e, _⟩ := HRW.out _ SR
        cases e; rfl
      subst hrn
      obtain ⟨g0, o0, rfl, cR⟩ := (HIN.out.1 _ SR).slot hsv
      have HRK := Lib.hid (And.intro hr (HIN.out.2.2.2 r (List.mem_of_getElem? hr)))
      have hrl : (r.length : Int) ≤ 100 := by have := HIN.out.2.2.2 r (List.mem_of_getElem? hr); omega
      have hkl : (k : Int) < ivs.length := by omega
      have hki : (k : Int) ≤ 100 := by omega
      have HK := Lib.hid hlt
      have S4 : Hid (Sep w (numsR (.slice none 0 0) [] :: slnR (.slice none 0 0) [] :: slnR (.slice oa svs.length oc) svs :: slxR (.slice ta svx.length tc) svx :: (Ns ++ Rs)) wr) := Lib.hid ((S3.nilRow _ _ _).nilRow _ _ _)
      clear S3 SR hsv hr hal hr1 hr2 hlt hk hOL
      simp only [SlV.val] at cR
      go_wp2
      clear cR
      go_loopw [8, 9, 29] (fun wv uv jv wr => ∃ (j : Nat) (ths : List SlV), j ≤ r.length ∧ jv = .int .i64 j ∧ (∀ b ∈ r.take j, 0 ≤ b ∧ b < (O.length : Int)) ∧ RowsIn (Sep w (Ns ++ Rs)) ths ((r.take j).map (ordOf O)) ∧ Sep w (numsR wv (r.take j) :: slnR uv ths :: slnR (.slice oa svs.length oc) svs :: slxR (.slice ta svx.length tc) svx :: (Ns ++ Rs)) wr) (fun _ _ jv _ => r.length - (intOf jv).toNat)
      case atStart => exact ⟨0, [], by omega, rfl, by simp, ⟨rfl, by simp⟩, S4.out⟩
      case round =>
        clear S4
        obtain ⟨j, ths, hj, rfl, hin, hr3, S5⟩ := hrel
        obtain ⟨wa, wc', hwv⟩ := (S5.row 0 rfl).form
        obtain ⟨ua, uc, huv⟩ := (S5.row 1 rfl).form
        rw [hwv, huv] at S5
        rw [hwv, huv]
        clear hwv huv
        have htl : ths.length = j := by rw [hr3.1]; simp; omega
        by_cases hjl : j < r.length
        · obtain ⟨x, hx⟩ : ∃ x, r[j]? = some x := ⟨r[j], by simp⟩
          have SR := FR.out _ [_, _, _, _] S5
          obtain ⟨_, _, e0, p1, p2, p3⟩ := HRW.out _ SR
          cases e0
          obtain ⟨g, o, rfl, hcell⟩ : ∃ g o, ra = some ⟨g, o, none⟩ ∧ ∀ i n, r[i]? = some n → wr.cell? ⟨g, o + i, none⟩ = some (.int .i64 n) := by
            rcases p3 with hh | hh
            · subst hh; simp at hjl
            · exact hh
          have cx := hcell j x hx
          have hji : (j : Int) < r.length := by omega
          clear hcell p1 p2 p3
          by_cases hb : 0 ≤ x ∧ x < (O.length : Int)
          · obtain ⟨n, rfl⟩ := Int.eq_ofNat_of_zero_le hb.1
            have hnk : n < k := by have := HO.out.2.2.2.1; omega
            have hnk' : (n : Int) < k := by omega
            have hn0 : (0 : Int) ≤ n := by omega
            have hsl := HO.out.2.1.1
            obtain ⟨sv, hsv⟩ : ∃ sv, svs[n]? = some sv := ⟨svs[n]'(by have := HO.out.2.2.2.1; omega), by simp⟩
            have hor : O[n]? = some (ordOf O n) := by
              unfold ordOf
              rw [Int.toNat_natCast, List.getElem?_eq_getElem (by have := HO.out.2.2.2.1; omega)]; rfl
            have hnx : r.take (j + 1) = r.take j ++ [(n : Int)] := by rw [List.take_add_one, hx]; rfl
            have hwl : (r.take j).length ≤ 100 := by have := HRK.out.2; simp; omega
            have hsn : (n : Int) < svs.length := by have := HO.out.2.2.2.1; omega
            have HJ := Lib.hid (And.intro hnx (And.intro hin (And.intro hr3 (And.intro hjl (And.intro hb (And.intro hwl htl))))))
            have HSV := Lib.hid (HO.out.2.1.2 n sv _ hsv hor)
            have S6 := S5.alloc (.cells #[.int .i64 n] 2)
            have hone := Lib.hid (sees_one (f := intCell) (m := 1) (y := (n : Int)) (heapAllocNew wr (.cells #[.int .i64 n] 2)) rfl)
            replace S6 := Lib.hid S6
            have HSN := Lib.hid hsv
            clear S5 SR hnx hin hr3 hjl hj hb hor hsl hx hsv htl hwl
            obtain ⟨T, hT⟩ : ∃ gx_, (r.take j) = gx_ := ⟨_, rfl⟩
            rw [hT] at S6 HJ
            rw [hT]
            clear hT
            go_wp2_with (at_builtin; refine wpList_append_rows rfl _ _ 74 2 rfl Try.underlying74 _ 8 info_int64 rfl (by decide) (by decide) (fun _ => rfl) intCell_one S6.out 1 rfl rfl _ [(n : Int)] rfl hone.out (by have := HJ.out.2.2.2.2.2.1; simp; omega) ?_)
            intro va vc w5 S7
            have S8 := S7.tail
            replace S8 : Sep w (numsR (.slice va (T.length + [(n : Int)].length) vc) (T ++ [(n : Int)]) :: slnR (.slice ua ths.length uc) ths :: slnR (.slice oa svs.length oc) svs :: slxR (.slice ta svx.length tc) svx :: (Ns ++ Rs)) w5 := S8
            obtain ⟨xa, xn, xc⟩ := sv
            obtain ⟨g1, o1, rfl, cO⟩ := ((S8.row 2 rfl).seesR (f := slCellN) (m := 1) (fun _ => rfl)).slot HSN.out
            simp only [SlV.val] at cO
            have S9 := S8.alloc (.cells #[.slice xa xn xc] 74)
            have hone2 := Lib.hid (sees_one (f := slCellN) (m := 1) (y := ((xa, xn, xc) : SlV)) (heapAllocNew w5 (.cells #[.slice xa xn xc] 74)) rfl)
            replace S9 := Lib.hid S9
            clear S6 S7 S8 hone cx
            go_wp2_with (at_builtin; refine wpList_append_rows rfl _ _ 98 74 rfl Try.underlying98 _ 24 info_sln rfl (by decide) (by decide) (fun _ => rfl) slCellN_one S9.out 2 rfl rfl _ [(xa, xn, xc)] rfl hone2.out (by have := HJ.out.2.2.2.2.2.2; have := HRK.out.2; have := HJ.out.2.2.2.1; simp; omega) ?_)
            intro ya yc w6 S10
            have S11 := Lib.hid S10.tail
            clear S9 S10 hone2 cO
            go_wp2
            refine ⟨⟨j + 1, ths ++ [(xa, xn, xc)], by have := HJ.out.2.2.2.1; omega, by go_num, ?_, ?_, ?_⟩, by have := HJ.out.2.2.2.1; simp [intOf]; omega⟩
            · rw [HJ.out.1]
              intro b hb
              rcases List.mem_append.1 hb with h | h
              · exact HJ.out.2.1 b h
              · simp at h; subst h; exact HJ.out.2.2.2.2.1
            · rw [HJ.out.1, List.map_append]
              exact HJ.out.2.2.1.snoc HSV.out
            · rw [HJ.out.1]; exact S11.out
          · have hno : allM rows = none := allM_no HO.out.1 HRK.out.1 (stepM_bad (List.mem_of_getElem? hx) hb)
            have HNO := Lib.hid hno
            have S6 := Lib.hid SR
            have hxk : x < 0 ∨ (0 ≤ x ∧ (k : Int) ≤ x) := by have := HO.out.2.2.2.1; omega
            clear S5 SR hin hr3 hjl hj hb hx hno htl HO HRW
            rcases hxk with h0 | ⟨h0, h1⟩
            · go_wp2
              refine bodyPost_ret (v := .tuple #[.slice none 0 0, .bool false]) (by simp [results, Try.results39, go_sem]) rfl ?_
              unfold AllDone
              rw [HNO.out]
              exact ⟨rfl, S6.out⟩
            · go_wp2
              refine bodyPost_ret (v := .tuple #[.slice none 0 0, .bool false]) (by simp [results, Try.results39, go_sem]) rfl ?_
              unfold AllDone
              rw [HNO.out]
              exact ⟨rfl, S6.out⟩
        · obtain rfl : j = r.length := by omega
          rw [List.take_length] at hin hr3 S5
          rw [List.take_length]
          have hsz : sizeM (r.map (ordOf O)) + r.length ≤ 1000000 := by
            have h1 := HO.out.2.2.2.2.size r
            have h2 := HRK.out.2
            have h3 : r.length * O.length ≤ 100 * 100 := Nat.mul_le_mul h2 (by have := HO.out.2.2.2.1; have := HIN.out.2.2.1; have := HK.out; have := HIN.out.2.1.1; omega)
            omega
          have C := lorder_ok S5 (k : Int) wa wc' r (fun W' T => SeesN.of_slIs (T.row 0 rfl)) ua uc ths (r.map (ordOf O)) (fun W' T => (T.row 1 rfl).seesR (f := slCellN) (m := 1) (fun _ => rfl)) (hr3.mono fun W' T => FN.out _ [_, _, _, _] T) (by have := HRK.out.2; omega) hsz
          replace C := Lib.hid C
          have HJ := Lib.hid hin
          clear S5 hin hr3 hj hjl htl hsz
          go_wp2_with fail
          refine C.out.mono ?_
          rintro e w4 hdone
          clear C
          rcases hdone with ⟨l, hm, hnl, v, rfl, S6⟩ | ⟨hm, rfl, S6⟩
          · obtain ⟨va, vc, hv⟩ := (S6.row 0 rfl).form
            have hv : v = .slice va (l.length + 1) vc := hv
            subst hv
            have hok := HO.out.2.2.2.2
            have hOL := HO.out.2.2.2.1
            have hst : stepM O r = some (O ++ [(k : Int) :: l]) := by
              have := stepM_yes HJ.out hm (by rw [hOL]; exact hnl)
              rw [hOL] at this; exact this
            have hll : l.length ≤ 100 := by
              have h1 := nodup_below (merge_nodup _ l hm) (n := O.length) (hok.merged HJ.out hm)
              have := HIN.out.2.2.1
              have := HK.out
              have := HIN.out.2.1.1
              omega
            have hnext := allM_take HO.out.1 HRK.out.1
            rw [hst] at hnext
            have S7 := (S6.sub (Qs := numsR (.slice va (l.length + 1) vc) ((k : Int) :: l) :: slnR (.slice oa svs.length oc) svs :: slxR (.slice ta svx.length tc) svx :: (Ns ++ Rs)) (.cons_cons _ (.cons _ (.cons _ (List.Sublist.refl _)))))
            have hL : ((k : Int) :: l).length = l.length + 1 := rfl
            obtain ⟨L, hLL⟩ : ∃ gx_, ((k : Int) :: l) = gx_ := ⟨_, rfl⟩
            rw [hLL] at S7 hL hnext
            obtain ⟨lc, hlc⟩ : ∃ lc, lc = l.length + 1 := ⟨_, rfl⟩
            rw [← hlc] at S7 hL
            rw [← hlc]
            have hll2 : L.length ≤ 101 := by omega
            subst hL
            clear hlc hll hst hm hnl hLL S6
            have hL3 : (L.length : Int) ≤ 101 := by omega
            have HN := Lib.hid (And.intro hnext (And.intro hll2 hOL))
            have S8 := S7.alloc (.cells #[.slice va L.length vc] 74)
            have hone := Lib.hid (sees_one (f := slCellN) (m := 1) (y := ((va, L.length, vc) : SlV)) (heapAllocNew w4 (.cells #[.slice va L.length vc] 74)) rfl)
            replace S8 := Lib.hid S8
            have hsl : svs.length ≤ 100 := by have := HO.out.2.1.1; have := HIN.out.2.2.1; have := HK.out; have := HIN.out.2.1.1; omega
            have HSL := Lib.hid hsl
            clear S7 hnext hll2 hok hsl hOL
            go_wp2_with (at_builtin; refine wpList_append_rows rfl _ _ 98 74 rfl Try.underlying98 _ 24 info_sln rfl (by decide) (by decide) (fun _ => rfl) slCellN_one S8.out 2 rfl rfl _ [(va, L.length, vc)] rfl hone.out (by have := HSL.out; simp; omega) ?_)
            intro ya yc w5 S9
            have S10 : Hid (Sep w (intsA (.slice none 0 0) [] :: numsR (.slice va L.length vc) L :: slnR (.slice ya (svs.length + 1) yc) (svs ++ [(va, L.length, vc)]) :: slxR (.slice ta svx.length tc) svx :: (Ns ++ Rs)) w5) := Lib.hid (S9.tail.nilRow _ _ _)
            clear S8 S9 hone
            go_wp2
            go_loopw [14, 67] (fun nv jv wr => ∃ j : Nat, j ≤ L.length ∧ jv = .int .i64 j ∧ Sep w (intsA nv (L.take j) :: numsR (.slice va L.length vc) L :: slnR (.slice ya (svs.length + 1) yc) (svs ++ [(va, L.length, vc)]) :: slxR (.slice ta svx.length tc) svx :: (Ns ++ Rs)) wr) (fun _ jv _ => L.length - (intOf jv).toNat)
            case atStart => exact ⟨0, by omega, rfl, S10.out⟩
            case round =>
              clear S10
              obtain ⟨j, hj, rfl, S11⟩ := hrel
              obtain ⟨na, nc, hnv⟩ := (S11.row 0 rfl).form
              rw [hnv] at S11
              rw [hnv]
              clear hnv
              by_cases hjl : j < L.length
              · obtain ⟨x, hx⟩ : ∃ x, L[j]? = some x := ⟨L[j], by simp⟩
                obtain ⟨_, _, e0, p1, p2, p3⟩ := SeesN.of_slIs (S11.row 1 rfl)
                cases e0
                obtain ⟨g, o, rfl, hcell⟩ : ∃ g o, va = some ⟨g, o, none⟩ ∧ ∀ i n, L[i]? = some n → wr.cell? ⟨g, o + i, none⟩ = some (.int .i64 n) := by
                  rcases p3 with hh | hh
                  · subst hh; simp at hjl
                  · exact hh
                have cx := hcell j x hx
                have hji : (j : Int) < L.length := by omega
                have hnx : L.take (j + 1) = L.take j ++ [x] := by rw [List.take_add_one, hx]; rfl
                have HJ2 := Lib.hid (And.intro hnx (And.intro hjl (show (L.take j).length ≤ 101 by have := HN.out.2.1; simp; omega)))
                have S12 := S11.alloc (.cells #[.int .i64 x] 3)
                have hone := Lib.hid (sees_one (f := intCell) (m := 1) (y := x) (heapAllocNew wr (.cells #[.int .i64 x] 3)) rfl)
                replace S12 := Lib.hid S12
                clear S11 hcell p1 p2 p3 hnx hjl hj hx
                obtain ⟨T, hT⟩ : ∃ gx_, (L.take j) = gx_ := ⟨_, rfl⟩
                rw [hT] at S12 HJ2
                rw [hT]
                clear hT
                go_wp2_with (at_builtin; refine wpList_append_rows rfl _ _ 23 3 rfl Try.underlying23 _ 8 info_intA rfl (by decide) (by decide) (fun _ => rfl) intCell_one S12.out 1 rfl rfl _ [x] rfl hone.out (by have := HJ2.out.2.2; simp; omega) ?_)
                intro za zc w6 S13
                have S14 := Lib.hid S13.tail
                clear S12 S13 hone cx
                go_wp2
                refine ⟨⟨j + 1, by have := HJ2.out.2.1; omega, by go_num, ?_⟩, by have := HJ2.out.2.1; simp [intOf]; omega⟩
                rw [HJ2.out.1]; exact S14.out
              · obtain rfl : j = L.length := by omega
                rw [List.take_length] at S11
                rw [List.take_length]
                have S12 := S11.alloc (.cells #[.slice na L.length nc] 23)
                have hone := Lib.hid (sees_one (f := slCellN) (m := 1) (y := ((na, L.length, nc) : SlV)) (heapAllocNew wr (.cells #[.slice na L.length nc] 23)) rfl)
                replace S12 := Lib.hid S12
                have hsx : svx.length ≤ 100 := by have := HO.out.2.2.1.1; have := HN.out.2.2; have := HIN.out.2.2.1; have := HK.out; have := HIN.out.2.1.1; omega
                have HSX := Lib.hid hsx
                clear S11 hj hjl hsx
                go_wp2_with (at_builtin; refine wpList_append_rows rfl _ _ 22 23 rfl Try.underlying22 _ 24 info_slx rfl (by decide) (by decide) (fun _ => rfl) slCellN_one S12.out 4 rfl rfl _ [(na, L.length, nc)] rfl hone.out (by have := HSX.out; simp; omega) ?_)
                intro za zc w6 S13
                have S14 : Sep w (intsA (.slice na L.length nc) L :: numsR (.slice va L.length vc) L :: slnR (.slice ya (svs.length + 1) yc) (svs ++ [(va, L.length, vc)]) :: slxR (.slice za (svx.length + 1) zc) (svx ++ [(na, L.length, nc)]) :: (Ns ++ Rs)) w6 := S13.tail
                have S15 : Hid (Sep w (slnR (.slice ya (svs.length + 1) yc) (svs ++ [(va, L.length, vc)]) :: slxR (.slice za (svx.length + 1) zc) (svx ++ [(na, L.length, nc)]) :: ((intsA (.slice na L.length nc) L :: numsR (.slice va L.length vc) L :: Ns) ++ Rs)) w6) := Lib.hid (S14.perm (by
                  refine List.Perm.trans (List.Perm.append_right (Ns ++ Rs) (l₁ := [intsA (.slice na L.length nc) L, numsR (.slice va L.length vc) L, slnR (.slice ya (svs.length + 1) yc) (svs ++ [(va, L.length, vc)]), slxR (.slice za (svx.length + 1) zc) (svx ++ [(na, L.length, nc)])]) (l₂ := [slnR (.slice ya (svs.length + 1) yc) (svs ++ [(va, L.length, vc)]), slxR (.slice za (svx.length + 1) zc) (svx ++ [(na, L.length, nc)]), intsA (.slice na L.length nc) L, numsR (.slice va L.length vc) L]) ?_) (List.Perm.refl _)
                  exact (List.perm_append_comm (l₁ := [intsA (.slice na L.length nc) L, numsR (.slice va L.length vc) L]) (l₂ := [slnR (.slice ya (svs.length + 1) yc) (svs ++ [(va, L.length, vc)]), slxR (.slice za (svx.length + 1) zc) (svx ++ [(na, L.length, nc)])]))))
                clear S12 S13 S14 hone
                go_wp2
                refine ⟨⟨k + 1, O ++ [L], intsA (.slice na L.length nc) L :: numsR (.slice va L.length vc) L :: Ns, svs ++ [(va, L.length, vc)], svx ++ [(na, L.length, nc)], by have := HK.out; omega, by go_num, HN.out.1, ?_, ?_, ?_⟩, by have := HK.out; simp [intOf]; omega⟩
                · exact (HO.out.2.1.mono fun W' T => Sep.tail (Sep.tail T)).snoc fun W' T => SeesN.of_slIs (Sep.row T 1 rfl)
                · exact (HO.out.2.2.1.mono fun W' T => Sep.tail (Sep.tail T)).snoc fun W' T => seesN_R ((Sep.row T 0 rfl).seesR (f := intCell) (m := 1) (fun _ => rfl))
                · simpa using S15.out
          · have hst : stepM O r = none := stepM_none fun l h => by rw [HO.out.2.2.2.1]; exact hm l h
            have HNO := Lib.hid (allM_no HO.out.1 HRK.out.1 hst)
            have S7 := Lib.hid (FR.out _ [_, _, _, _] S6)
            clear S6 hm hst
            go_wp2
            refine bodyPost_ret (v := .tuple #[.slice none 0 0, .bool false]) (by simp [results, Try.results39, go_sem]) rfl ?_
            unfold AllDone
            rw [HNO.out]
            exact ⟨rfl, S7.out⟩
    · obtain rfl : k = ivs.length := by omega
      have hrl : rows.take ivs.length = rows := List.take_of_length_le (by have := HIN.out.2.1.1; omega)
      have HALL := Lib.hid (show allM rows = some O by rw [← hrl]; exact hal)
      have S4 := Lib.hid S3.tail
      have HR2 := Lib.hid hr2
      clear S3 hal hr1 hr2 hk hlt hrl HO hOL
      go_wp2
      refine bodyPost_ret (v := .tuple #[.slice ta svx.length tc, .bool true]) (by simp [results, Try.results39, go_sem]) rfl ?_
      unfold AllDone
      rw [HALL.out]
      exact ⟨Ns, svx, ta, tc, rfl, HR2.out, S4.out⟩
end
end Go.Proofs.Ytkocenlglodklaa
