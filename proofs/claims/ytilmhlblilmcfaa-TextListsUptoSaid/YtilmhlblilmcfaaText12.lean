import Derived.Test.YtilmhlblilmcfaaText11
namespace Go.Proofs.Ytilmhlblilmcfaa
open Go.RowKit
set_option linter.unusedVariables false
set_option maxHeartbeats 400000
theorem ret_ss {a b c d : ByteArray} (h : a = b) (h' : c = d) : Ending.returned (.tuple #[.string a, .string c]) = .returned (.tuple #[.string b, .string d]) := by rw [h, h']
theorem ret_s {a b : ByteArray} (h : a = b) : Ending.returned (.string a) = .returned (.string b) := by rw [h]
theorem s_concat (w : World) : Calls Try.prog 13 #[.string ⟨#[97, 98]⟩, .string ⟨#[99]⟩] w fun e w' => e = .returned (.tuple #[.string ⟨#[97, 98, 99]⟩, .string ⟨#[]⟩]) ∧ Below w.heap.size w w' :=
  (concat_ok ⟨#[97, 98]⟩ ⟨#[99]⟩ w (by decide +kernel)).mono fun e w' h => ⟨h.1.trans (ret_ss (by decide +kernel) rfl), h.2 ▸ Below.refl _ _⟩
theorem s_rep3 (w : World) : Calls Try.prog 15 #[.string ⟨#[97, 98]⟩, .int .i64 3] w fun e w' => e = .returned (.tuple #[.string ⟨#[97, 98, 97, 98, 97, 98]⟩, .string ⟨#[]⟩]) ∧ Below w.heap.size w w' :=
  (repeat_ok ⟨#[97, 98]⟩ 3 w (by decide) (by unfold maxLen; decide +kernel) (by decide +kernel) (by decide +kernel)).mono fun e w' h => ⟨h.1.trans (ret_ss (by decide +kernel) rfl), h.2⟩
theorem s_repbig (w : World) : Calls Try.prog 15 #[.string ⟨#[97, 98]⟩, .int .i64 40000] w fun e w' => e = .returned (.tuple #[.string ⟨#[]⟩, .string ⟨#[77, 101, 109, 111, 114, 121, 69, 114, 114, 111, 114]⟩]) ∧ Below w.heap.size w w' :=
  (repeat_big ⟨#[97, 98]⟩ 40000 w (by decide) (by unfold maxLen; decide +kernel) (by decide +kernel) (by decide +kernel)).mono fun e w' h => ⟨h.1, h.2 ▸ Below.refl _ _⟩
theorem s_at1 (w : World) : Calls Try.prog 18 #[.string ⟨#[97, 98, 99]⟩, .int .i64 (-1)] w fun e w' => e = .returned (.tuple #[.string ⟨#[99]⟩, .string ⟨#[]⟩]) ∧ Below w.heap.size w w' :=
  (at_neg ⟨#[97, 98, 99]⟩ (-1) w (by unfold maxLen; decide +kernel) (by decide) (by decide +kernel)).mono fun e w' h => ⟨h.1.trans (ret_ss (by decide +kernel) rfl), h.2 ▸ Below.refl _ _⟩
theorem s_at3 (w : World) : Calls Try.prog 18 #[.string ⟨#[97, 98, 99]⟩, .int .i64 3] w fun e w' => e = .returned (.tuple #[.string ⟨#[]⟩, .string ⟨#[73, 110, 100, 101, 120, 69, 114, 114, 111, 114]⟩]) ∧ Below w.heap.size w w' :=
  (at_out ⟨#[97, 98, 99]⟩ 3 w (by unfold maxLen; decide +kernel) (by decide) (by decide +kernel)).mono fun e w' h => ⟨h.1, h.2 ▸ Below.refl _ _⟩
theorem s_find1 (m : Int) (w : World) (hm : w.cell? ⟨0, 0, none⟩ = some (.int .i64 m)) : Calls Try.prog 29 #[.string ⟨#[97, 98, 99, 98]⟩, .string ⟨#[98]⟩] w fun e w' => e = .returned (.int .i64 1) ∧ Below w.heap.size w w' :=
  (find_i ⟨#[97, 98, 99, 98]⟩ ⟨#[98]⟩ m w (by decide +kernel) hm).mono fun e w' h => ⟨h.1.trans (ret_i (by decide +kernel)), h.2 ▸ Below.refl _ _⟩
theorem s_find2 (m : Int) (w : World) (hm : w.cell? ⟨0, 0, none⟩ = some (.int .i64 m)) : Calls Try.prog 29 #[.string ⟨#[97]⟩, .string ⟨#[98]⟩] w fun e w' => e = .returned (.int .i64 (-1)) ∧ Below w.heap.size w w' :=
  (find_i ⟨#[97]⟩ ⟨#[98]⟩ m w (by decide +kernel) hm).mono fun e w' h => ⟨h.1.trans (ret_i (by decide +kernel)), h.2 ▸ Below.refl _ _⟩
theorem s_cmp (w : World) : Calls Try.prog 31 #[.string ⟨#[97]⟩, .string ⟨#[97, 98]⟩] w fun e w' => e = .returned (.int .i64 (-1)) ∧ Below w.heap.size w w' :=
  (compare_i ⟨#[97]⟩ ⟨#[97, 98]⟩ w (by unfold maxLen; decide +kernel) (by unfold maxLen; decide +kernel)).mono fun e w' h => ⟨h.1.trans (ret_i (by decide +kernel)), h.2⟩
theorem s_slice (w : World) : Calls Try.prog 22 #[.string ⟨#[97, 98, 99, 100, 101]⟩, .int .i64 1, .int .i64 (-1)] w fun e w' => e = .returned (.string ⟨#[98, 99, 100]⟩) ∧ Below w.heap.size w w' :=
  (slice_i ⟨#[97, 98, 99, 100, 101]⟩ 1 (-1) w (by unfold maxLen; decide +kernel) (by decide) (by decide) (by decide) (by decide)).mono fun e w' h => ⟨h.1.trans (ret_s (by decide +kernel)), h.2⟩
theorem s_split0 (w : World) : Calls Try.prog 26 #[.string ⟨#[97]⟩, .string ⟨#[]⟩] w fun e w' => e = .returned (.tuple #[.slice none 0 0, .string ⟨#[86, 97, 108, 117, 101, 69, 114, 114, 111, 114]⟩]) ∧ Below w.heap.size w w' :=
  split_empty ⟨#[97]⟩ ⟨#[]⟩ w (by decide +kernel)
theorem s_join (b : Nat) (w : World) (h0 : w.cell? ⟨b, 0, none⟩ = some (.string ⟨#[97]⟩)) (h1 : w.cell? ⟨b, 1, none⟩ = some (.string ⟨#[98]⟩)) : Calls Try.prog 24 #[.string ⟨#[44, 32]⟩, .slice (some ⟨b, 0, none⟩) 2 2] w fun e w' => e = .returned (.tuple #[.string ⟨#[97, 44, 32, 98]⟩, .string ⟨#[]⟩]) ∧ Below w.heap.size w w' :=
  (join_ok b 0 2 [⟨#[97]⟩, ⟨#[98]⟩] ⟨#[44, 32]⟩ w (fun j x hx => by
    match j, hx with
    | 0, hx => cases hx; exact h0
    | 1, hx => cases hx; exact h1) (World.block_lt_of_cell? w _ h0) (by decide) (by decide) (by decide +kernel) (by decide +kernel) (by decide)).mono fun e w' h => ⟨h.1.trans (ret_ss (by decide +kernel) rfl), h.2⟩
def f3 : Nat → ByteArray | 0 => ⟨#[97]⟩ | 1 => ⟨#[]⟩ | 2 => ⟨#[98]⟩ | _ => ⟨#[]⟩
theorem s_split (m : Int) (w : World) (hm : w.cell? ⟨0, 0, none⟩ = some (.int .i64 m)) : Calls Try.prog 26 #[.string ⟨#[97, 44, 44, 98]⟩, .string ⟨#[44]⟩] w fun e w' =>
    ∃ g cap, e = .returned (.tuple #[.slice (some ⟨g, 0, none⟩) 3 cap, .string ⟨#[]⟩]) ∧ (∀ j, j < 3 → w'.cell? ⟨g, j, none⟩ = some (.string (f3 j))) ∧ w.heap.size ≤ g ∧ Below w.heap.size w w' :=
  (split_ok ⟨#[97, 44, 44, 98]⟩ ⟨#[44]⟩ 3 m w (by decide +kernel) (by decide) (by decide) (by decide +kernel) (fun k hk => by
    match k, hk with
    | 0, _ => decide +kernel
    | 1, _ => decide +kernel) (by decide +kernel) hm).mono fun e w' ⟨g, cap, h1, h2, h3, h4, h5, h6⟩ => ⟨g, cap, h1, fun j hj => by
      rw [h2 j hj]
      match j, hj with
      | 0, _ => exact congrArg (fun x => some (Value.string x)) (by decide +kernel)
      | 1, _ => exact congrArg (fun x => some (Value.string x)) (by decide +kernel)
      | 2, _ => exact congrArg (fun x => some (Value.string x)) (by decide +kernel), h4, h6⟩
theorem said_i (m : Int) (w : World) (hm : w.cell? ⟨0, 0, none⟩ = some (.int .i64 m)) :
    Calls Try.prog 17 #[] w fun e w' => e = .returned (.bool true) ∧ Below w.heap.size w w' := by
  go_enter Try.func17, Try.ntmps17
  go_wp2_with fail
  refine (s_concat _).mono ?_
  rintro e w1 ⟨rfl, b1⟩
  change Below _ _ _ at b1
  go_wp2_with fail
  refine (s_rep3 _).mono ?_
  rintro e w2 ⟨rfl, b2⟩
  replace b2 := b1.trans ((show Below _ _ _ from b2).mono b1.size)
  go_wp2_with fail
  refine (s_repbig _).mono ?_
  rintro e w3 ⟨rfl, b3⟩
  replace b3 := b2.trans ((show Below _ _ _ from b3).mono b2.size)
  go_wp2_with fail
  refine (s_at1 _).mono ?_
  rintro e w4 ⟨rfl, b4⟩
  replace b4 := b3.trans ((show Below _ _ _ from b4).mono b3.size)
  go_wp2_with fail
  refine (s_at3 _).mono ?_
  rintro e w5 ⟨rfl, b5⟩
  replace b5 := b4.trans ((show Below _ _ _ from b5).mono b4.size)
  clear b1 b2 b3 b4
  go_wp2_with fail
  refine (s_join w5.heap.size _ (by simp) (by simp)).mono ?_
  rintro e w6 ⟨rfl, b6⟩
  replace b6 := (b5.alloc b5.size _).trans ((show Below _ _ _ from b6).mono (by have := b5.size; simp; omega))
  clear b5
  have hw0 : 0 < w.heap.size := World.block_lt_of_cell? w _ hm
  have hm6 : w6.cell? ⟨0, 0, none⟩ = some (.int .i64 m) := (b6.cell (p := ⟨0, 0, none⟩) hw0).trans hm
  go_wp2_with fail
  refine (s_split m _ hm6).mono ?_
  rintro e w7 ⟨g, cap, rfl, hg, hgs, b7⟩
  replace b7 := b6.trans ((show Below _ _ _ from b7).mono b6.size)
  have HG := Lib.hid hg
  have hg7 : g < w7.heap.size := World.block_lt_of_cell? w7 _ (hg 0 (by decide))
  clear hg hm6 b6 hgs
  go_wp2_with fail
  refine (s_split0 _).mono ?_
  rintro e w8 ⟨rfl, b8⟩
  have HG8 : Hid (∀ j, j < 3 → w8.cell? ⟨g, j, none⟩ = some (.string (f3 j))) := fun j hj => ((show Below _ _ _ from b8).cell (p := ⟨g, j, none⟩) hg7).trans (HG.out j hj)
  have hg8 : g < w8.heap.size := Nat.lt_of_lt_of_le hg7 (show Below _ _ _ from b8).size
  replace b8 := b7.trans ((show Below _ _ _ from b8).mono b7.size)
  clear HG hg7 b7
  go_wp2_with fail
  refine (ref_same g w8.heap.size 3 cap 3 f3 _ ?ca ?cb (by decide)).mono ?_
  case ca => exact fun j hj => (((Below.refl w8.heap.size w8).alloc (Nat.le_refl _) _).cell (p := ⟨g, j, none⟩) hg8).trans (HG8.out j hj)
  case cb =>
    intro j hj
    match j, hj with
    | 0, _ => simp [f3]
    | 1, _ => simp [f3]
    | 2, _ => simp [f3]
  rintro e w9 ⟨rfl, n9, h9⟩
  have b9 : Below w.heap.size w w9 := by
    rw [h9]; exact (b8.alloc b8.size _).trans ⟨rfl, rfl, rfl, Nat.le_refl _, fun _ _ => rfl⟩
  clear h9 b8 HG8 hg8
  have hm9 : w9.cell? ⟨0, 0, none⟩ = some (.int .i64 m) := (b9.cell (p := ⟨0, 0, none⟩) hw0).trans hm
  go_wp2_with fail
  refine (s_find1 m _ hm9).mono ?_
  rintro e w10 ⟨rfl, b10⟩
  replace b10 := b9.trans ((show Below _ _ _ from b10).mono b9.size)
  clear b9 hm9
  have hm10 : w10.cell? ⟨0, 0, none⟩ = some (.int .i64 m) := (b10.cell (p := ⟨0, 0, none⟩) hw0).trans hm
  go_wp2_with fail
  refine (s_find2 m _ hm10).mono ?_
  rintro e w11 ⟨rfl, b11⟩
  replace b11 := b10.trans ((show Below _ _ _ from b11).mono b10.size)
  clear b10 hm10
  go_wp2_with fail
  refine (s_cmp _).mono ?_
  rintro e w12 ⟨rfl, b12⟩
  replace b12 := b11.trans ((show Below _ _ _ from b12).mono b11.size)
  clear b11
  go_wp2_with fail
  refine (s_slice _).mono ?_
  rintro e w13 ⟨rfl, b13⟩
  replace b13 := b12.trans ((show Below _ _ _ from b13).mono b12.size)
  clear b12
  go_wp2
  go_ret
  exact ⟨rfl, b13⟩
end Go.Proofs.Ytilmhlblilmcfaa
