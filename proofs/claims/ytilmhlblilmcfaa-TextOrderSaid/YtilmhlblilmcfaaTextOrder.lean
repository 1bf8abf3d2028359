/-
  TextOrder: for every three strs the law returns true: strs are held against one another just so, and that is an order. No condition.
-/
import Derived.Test.YtilmhlblilmcfaaTextEnv
namespace Go.Proofs.Ytilmhlblilmcfaa.textOrder
open Go.ChangeShapes Go.WideShapes Go.ChangeAt Go.RowKit
open Go.ChangeMaps (open_string)
set_option linter.unusedVariables false
theorem cmpL_refl : ∀ x : List UInt8, cmpL x x = 0
  | [] => rfl
  | a :: x => by rw [cmpL, if_neg (by omega), if_neg (by omega)]; exact cmpL_refl x
theorem cmpL_anti : ∀ x y : List UInt8, cmpL x y = - cmpL y x
  | [], [] => rfl
  | [], _ :: _ => rfl
  | _ :: _, [] => rfl
  | a :: x, b :: y => by
    rw [cmpL, cmpL]
    by_cases h1 : a.toNat < b.toNat
    · rw [if_pos h1, if_neg (by omega), if_pos h1]
    · by_cases h2 : b.toNat < a.toNat
      · rw [if_neg h1, if_pos h2, if_pos h2]; rfl
      · rw [if_neg h1, if_neg (by omega), if_neg h2, if_neg (by omega)]; exact cmpL_anti x y
theorem cmpL_eq : ∀ x y : List UInt8, cmpL x y = 0 → x = y
  | [], [], _ => rfl
  | [], _ :: _, h => by cases h
  | _ :: _, [], h => by cases h
  | a :: x, b :: y, h => by
    rw [cmpL] at h
    by_cases h1 : a.toNat < b.toNat
    · rw [if_pos h1] at h; cases h
    · by_cases h2 : a.toNat > b.toNat
      · rw [if_neg h1, if_pos h2] at h; cases h
      · rw [if_neg h1, if_neg h2] at h
        have e : a = b := UInt8.toNat_inj.1 (by omega)
        rw [e, cmpL_eq x y h]
theorem cmpL_trans : ∀ x y z : List UInt8, cmpL x y ≤ 0 → cmpL y z ≤ 0 → cmpL x z ≤ 0
  | [], _, [], _, _ => by decide
  | [], _, _ :: _, _, _ => by show (-1 : Int) ≤ 0; omega
  | _ :: _, [], _, h, _ => by exact absurd h (by show ¬ (1 : Int) ≤ 0; omega)
  | _ :: _, _ :: _, [], _, h => by exact absurd h (by show ¬ (1 : Int) ≤ 0; omega)
  | a :: x, b :: y, c :: z, h, h' => by
    rw [cmpL] at h h' ⊢
    by_cases g1 : a.toNat > b.toNat
    · rw [if_neg (by omega), if_pos g1] at h; omega
    · by_cases g2 : b.toNat > c.toNat
      · rw [if_neg (by omega), if_pos g2] at h'; omega
      · by_cases g3 : a.toNat < c.toNat
        · rw [if_pos g3]; omega
        · have e1 : ¬ a.toNat < b.toNat := by omega
          have e2 : ¬ b.toNat < c.toNat := by omega
          rw [if_neg e1, if_neg g1] at h
          rw [if_neg e2, if_neg g2] at h'
          rw [if_neg g3, if_neg (by omega)]
          exact cmpL_trans x y z h h'
theorem eq_iff (a b : ByteArray) (h : cmpL a.data.toList b.data.toList = 0) : a = b := by
  have := cmpL_eq _ _ h
  cases a with | mk a => cases b with | mk b => cases a; cases b; simp at this; rw [this]
set_option maxHeartbeats 1000000 in
theorem core (a b c : ByteArray) (x y z u : Int) (m : Int) (w : World) (wa : a.size ≤ maxLen) (wb : b.size ≤ maxLen) (wc : c.size ≤ maxLen)
    (hx : cmpL a.data.toList b.data.toList = x) (hy : cmpL b.data.toList a.data.toList = y) (hz : cmpL b.data.toList c.data.toList = z) (hu : cmpL a.data.toList c.data.toList = u)
    (hxy : x = -1 ∧ y = 1 ∨ x = 0 ∧ y = 0 ∨ x = 1 ∧ y = -1) (hs : (x = 0 ∧ a = b) ∨ (x ≠ 0 ∧ (a.toList == b.toList) = false)) (ht : x ≤ 0 → z ≤ 0 → u ≤ 0) (hz3 : z = 0 ∨ z = 1 ∨ z = -1) (hu3 : u = 0 ∨ u = 1 ∨ u = -1) (hm : w.cell? ⟨0, 0, none⟩ = some (.int .i64 m)) :
    Calls Try.prog 7 #[.string a, .string b, .string c] w fun e w' => e = .returned (.bool true) ∧ Below w.heap.size w w' := by
  have hw0 : 0 < w.heap.size := World.block_lt_of_cell? w _ hm
  have K1 := Lib.hid (compare_pair a b wa wb)
  have K2 := Lib.hid (compare_pair a a wa wa)
  have K3 := Lib.hid (compare_pair b a wb wa)
  have K4 := Lib.hid (compare_pair b c wb wc)
  have K5 := Lib.hid (compare_pair a c wa wc)
  rw [hx] at K1; rw [cmpL_refl] at K2; rw [hy] at K3; rw [hz] at K4; rw [hu] at K5
  clear hx hy hz hu
  have hall : (x = 1 ∧ y = -1) ∨ ((x = -1 ∧ y = 1 ∨ x = 0 ∧ y = 0) ∧ (z = 1 ∨ ((z = 0 ∨ z = -1) ∧ (u = 0 ∨ u = -1)))) := by
    rcases hxy with h | h | h
    · right; refine ⟨.inl h, ?_⟩; have := ht (by omega); omega
    · right; refine ⟨.inr h, ?_⟩; have := ht (by omega); omega
    · exact .inl h
  clear ht hxy hz3 hu3
  rcases hall with ⟨rfl, rfl⟩ | ⟨⟨rfl, rfl⟩ | ⟨rfl, rfl⟩, rfl | ⟨rfl | rfl, rfl | rfl⟩⟩
  all_goals
    first
    | (have hne := (hs.resolve_left (fun h => by have := h.1; omega)).2; clear hs)
    | (obtain rfl := (hs.resolve_right (fun h => h.1 rfl)).2; clear hs)
    go_enter Try.func7, Try.ntmps7
    go_wp2_with fail
    refine (K1.out.1 _).mono ?_
    rintro e w1 ⟨rfl, c1⟩
    change Below _ _ _ at c1
    go_wp2_with fail
    refine (K1.out.2 _).mono ?_
    rintro e w2 ⟨rfl, c2⟩
    replace c2 := c1.trans ((show Below _ _ _ from c2).mono c1.size)
    clear c1
    go_wp2_with fail
    refine (K2.out.1 _).mono ?_
    rintro e w3 ⟨rfl, c3⟩
    replace c3 := c2.trans ((show Below _ _ _ from c3).mono c2.size)
    clear c2
    go_wp2_with fail
    refine (K1.out.1 _).mono ?_
    rintro e w4 ⟨rfl, c4⟩
    replace c4 := c3.trans ((show Below _ _ _ from c4).mono c3.size)
    clear c3
    go_wp2_with fail
    refine (K3.out.1 _).mono ?_
    rintro e w5 ⟨rfl, c5⟩
    replace c5 := c4.trans ((show Below _ _ _ from c5).mono c4.size)
    clear c4
    have hm5 : w5.cell? ⟨0, 0, none⟩ = some (.int .i64 m) := (c5.cell (p := ⟨0, 0, none⟩) hw0).trans hm
    go_wp2_with fail
    refine (said_r m _ hm5).mono ?_
    rintro e w6 ⟨rfl, c6⟩
    replace c6 := c5.trans ((show Below _ _ _ from c6).mono c5.size)
    clear c5 hm5
    first
    | (go_wp2; go_ret; exact ⟨rfl, c6⟩)
    | (go_wp2_with fail
       refine (K4.out.1 _).mono ?_
       rintro e w7 ⟨rfl, c7⟩
       replace c7 := c6.trans ((show Below _ _ _ from c7).mono c6.size)
       first
       | (go_wp2; go_ret; exact ⟨rfl, c7⟩)
       | (go_wp2_with fail
          refine (K5.out.1 _).mono ?_
          rintro e w8 ⟨rfl, c8⟩
          replace c8 := c7.trans ((show Below _ _ _ from c8).mono c7.size)
          go_wp2
          go_ret
          exact ⟨rfl, c8⟩))
theorem walk (a b c : ByteArray) (m : Int) (w : World) (wa : a.size ≤ maxLen) (wb : b.size ≤ maxLen) (wc : c.size ≤ maxLen) (hm : w.cell? ⟨0, 0, none⟩ = some (.int .i64 m)) :
    Calls Try.prog 7 #[.string a, .string b, .string c] w fun e w' => e = .returned (.bool true) ∧ Below w.heap.size w w' := by
  have h1 := cmpL_three a.data.toList b.data.toList
  have h2 := cmpL_anti b.data.toList a.data.toList
  have h3 := cmpL_three b.data.toList c.data.toList
  have h4 := cmpL_three a.data.toList c.data.toList
  refine core a b c _ _ _ _ m w wa wb wc rfl rfl rfl rfl (by omega) ?_ (cmpL_trans _ _ _) h3 h4 hm
  by_cases h : a = b
  · subst h; exact .inl ⟨cmpL_refl _, rfl⟩
  · refine .inr ⟨fun h0 => h (eq_iff a b h0), ?_⟩
    rw [beq_eq_false_iff_ne, ByteArray.toList_eq, ByteArray.toList_eq]
    intro e; apply h
    cases a with | mk a => cases b with | mk b => cases a; cases b; simp at e; rw [e]
set_option maxRecDepth 100000 in
theorem lifted (os : Os) (started : os.Started) (H : Type) (enc : TypeId × Value → H) :
    ReturnsInHanded {} Try.checked os 7 .any (Rows.textOrderSpec.pre6 enc Try.prog Try.f7 Rows.textOrderRow.domain false) (Rows.textOrderSpec.post enc Try.prog Try.f7 false true false false) := by
  refine law_lift (C := Try.checked) own started (by kernel_rfl) Try.func7
    (ChangeSpec.witness6 (enc := enc) (C := Try.checked) false ⟨#[], #[.string ⟨#[]⟩, .string ⟨#[]⟩, .string ⟨#[]⟩], []⟩ 8 (by kernel_rfl) (by kernel_rfl) (by kernel_rfl) (by kernel_rfl))
    (by kernel_rfl) (by kernel_rfl) rfl (fun ds h => by
      match ds, h with
      | [d1, d2, d3], _ => exact ⟨rfl, rfl, rfl⟩) rfl Try.underlying4 ?_
  intro W base args ds ps hval hA hlt hwt hsh
  rw [Try.params7] at hA hval
  obtain ⟨v0, vs0, d0, ds0, p0, q0, hargs, rfl, rfl, h0, r0⟩ := trodAll_cons hA
  obtain ⟨v1, vs1, d1, ds1, p1, q1, rfl, rfl, rfl, h1, r1⟩ := trodAll_cons r0
  obtain ⟨v2, vs2, d2, ds2, p2, q2, rfl, rfl, rfl, h2, r2⟩ := trodAll_cons r1
  obtain ⟨rfl, rfl, rfl⟩ := trodAll_nil r2
  obtain rfl : args = #[v0, v1, v2] := by cases args; simp_all
  obtain ⟨a0, rfl, rfl, rfl, w0⟩ := open_string Try.underlying9 (hval 0 9 v0 rfl rfl) h0
  obtain ⟨a1, rfl, rfl, rfl, w1⟩ := open_string Try.underlying9 (hval 1 9 v1 rfl rfl) h1
  obtain ⟨a2, rfl, rfl, rfl, w2⟩ := open_string Try.underlying9 (hval 2 9 v2 rfl rfl) h2
  obtain ⟨m, hm⟩ := shaped_m W hsh
  -- WALK
  exact walk a0 a1 a2 m W w0 w1 w2 hm
theorem proved : Rows.TextOrderSaid :=
  OpenClaim.holds_of_wide 7 Try.f7 rfl rfl rfl rfl rfl rfl rfl ⟨rfl, rfl, rfl, rfl, rfl⟩ rfl rfl rfl rfl rfl (by kernel_rfl) Try.func7 (by kernel_rfl)
    (of_decide_eq_true (by kernel_rfl)) (by unfold Func.isWrapper; first | (rw [if_pos (by decide +kernel)]; kernel_rfl) | (rw [if_neg (by decide +kernel)]; exact ⟨rfl, rfl⟩))
    (fun os started H enc _ => lifted os started H enc)
#print axioms proved
end Go.Proofs.Ytilmhlblilmcfaa.textOrder
