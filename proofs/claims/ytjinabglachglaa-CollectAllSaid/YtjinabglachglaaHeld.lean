/- The law's held. -/
import Derived.Test.YtjinabglachglaaCollN
import Derived.Test.YtjinabglachglaaIn
namespace Go.Proofs.Ytjinabglachglaa
set_option linter.unusedSimpArgs false
open Go.RowKit
set_option linter.unusedVariables false
/-- A slice that shows these bytes. -/
def SeesB (w : World) (sv : Value) (l : List Nat) : Prop :=
  ∃ a c, sv = .slice a l.length c ∧ l.length ≤ maxLen ∧ (∀ b ∈ l, b < 256) ∧ (l = [] ∨ ∃ g o, a = some ⟨g, o, none⟩ ∧ ∀ (i b : Nat), l[i]? = some b → w.cell? ⟨g, o + i, none⟩ = some (.int .u8 (b : Int)))
def heldV (b : Nat) : V := if 240 ≤ b then ⟨2, ((b % 16 : Nat) : Int), ⟨#[]⟩, by decide, okI_of ⟨by omega, by omega⟩, by decide⟩ else V.ref ((b % 16 : Nat) : Int) (okI_of ⟨by omega, by omega⟩)
def heldM (l : List Nat) : List V := (l.take 12).map heldV
theorem sees_one {W : World} {bk : Nat} {T : TypeId} {k n : Int} {t : ByteArray} (v : V) (hk : v.kind = k) (hn : v.n = n) (ht : v.s = t) (h : W.heap[bk]? = some (.cells #[.int .i64 k, .int .i64 n, .string t] T)) : SeesV W (.slice (some ⟨bk, 0, none⟩) 1 1) [v] := by
  subst hk hn ht
  refine ⟨_, 1, rfl, by simp, by simp [maxLen], .inr ⟨bk, 0, rfl, fun i x hx => ?_⟩⟩
  match i, hx with
  | 0, hx =>
    simp at hx; subst hx
    exact ⟨cellAt h 0 rfl, cellAt h 1 rfl, cellAt h 2 rfl⟩
  | i + 1, hx => simp at hx
set_option maxRecDepth 100000 in
set_option maxHeartbeats 1600000 in
theorem held_ok {w W : World} {Rs : List Res} (S : Sep w Rs W) (kv ev sv : Value) (hkv : kv.cells.size = 1) (B : List Nat) (hs : SeesB w sv B) :
    Calls Try.prog 13 #[.agg #[kv, ev, sv]] W fun e W' => ∃ v, e = .returned v ∧ Sep w (valsR v (heldM B) :: Rs) W' := by
  obtain ⟨a, c, rfl, h1, h2, h3⟩ := hs
  have hbl : (B.length : Int) ≤ 9223372036854775807 := by unfold maxLen at h1; omega
  have S0 := (S.alloc (.cells #[kv, ev, .slice a B.length c] 28)).addRow (belowAlloc _ (.cells #[] 41)) (e := 41) (m := 3) (f := V.cells) (v := .slice (some ⟨(W.alloc (.cells #[kv, ev, .slice a B.length c] 28)).heap.size, 0, none⟩) 0 0) (l := []) (World.ownsRow_made _ #[] 0 (Nat.zero_le _) (Nat.zero_le _) rfl) (by simp [Value.ownBlock])
  replace S0 := Lib.hid S0
  have HB := Lib.hid (And.intro h2 h3)
  clear h1 h2 h3 S
  go_enter Try.func13, Try.ntmps13
  go_wp2
  obtain ⟨bx, hbx⟩ : ∃ bx, W.heap.size = bx := ⟨_, rfl⟩
  rw [World.size_alloc, hbx] at S0
  rw [hbx]
  have HBX := Lib.hid hbx
  clear hbx
  go_loopw [3, 4] (fun out i wr => ∃ k : Nat, k ≤ B.length ∧ k ≤ 12 ∧ i = .int .i64 k ∧ Sep w (valsR out ((B.take k).map heldV) :: boxR bx (.cells #[kv, ev, .slice a B.length c] 28) :: Rs) wr) (fun _ i _ => 12 - (intOf i).toNat)
  case atStart => exact ⟨0, by omega, by omega, rfl, S0.out⟩
  case round =>
    clear S0
    obtain ⟨k, hk, hk12, rfl, S1⟩ := hrel
    obtain ⟨oa, oc, rfl⟩ := (S1.row 0 rfl).form
    have hLl : ((B.take k).map heldV).length ≤ 12 := by simp; omega
    obtain ⟨L, hL⟩ : ∃ L, (B.take k).map heldV = L := ⟨_, rfl⟩
    rw [hL] at S1 hLl ⊢
    have b2 := cellAt (S1.box 1 rfl) 2 (v := .slice a B.length c) rfl
    by_cases hlt : k < B.length ∧ k < 12
    · obtain ⟨x, hx⟩ : ∃ x, B[k]? = some x := ⟨B[k]'hlt.1, by simp [hlt.1]⟩
      obtain ⟨g, o, rfl, hc⟩ : ∃ g o, a = some ⟨g, o, none⟩ ∧ ∀ (i b : Nat), B[i]? = some b → w.cell? ⟨g, o + i, none⟩ = some (.int .u8 (b : Int)) := by
        rcases HB.out.2 with h | h
        · subst h; simp at hlt
        · exact h
      have c0 := cellBelow (hc k x hx) S1.below
      have hil : (k : Int) < B.length := by omega
      have hil2 : (k : Int) < 12 := by omega
      have hx256 := HB.out.1 x (List.mem_of_getElem? hx)
      have S2 := Lib.hid S1
      clear S1
      go_wp2_with fail
      refine (ref_ok _ _).mono ?_
      rintro e w2 ⟨rfl, hb1⟩
      have S3 := (S2.out.later hb1).alloc (.cells #[.int .i64 4, .int .i64 ((x : Int) % 16), .string ⟨#[]⟩] 41)
      have d2 := cellAt (S3.box 2 rfl) 2 (v := .slice (some ⟨g, o, none⟩) B.length c) rfl
      have d0 := cellBelow (hc k x hx) S3.below
      have hnext : L ++ [heldV x] = (B.take (k + 1)).map heldV := by rw [← hL, List.take_add_one, hx, List.map_append]; rfl
      have HX := Lib.hid (And.intro hnext (And.intro hk12 hlt))
      by_cases h240 : 240 ≤ x
      · have h240i : (240 : Int) ≤ (x : Int) := by omega
        have S4 := (S2.out.later hb1).alloc (.cells #[.int .i64 2, .int .i64 ((x : Int) % 16), .string ⟨#[]⟩] 41)
        replace S4 := Lib.hid S4
        clear S2 S3 c0 b2 hb1 hnext hx hc hL
        go_wp2_with (at_builtin; refine wpList_append_sep rfl _ _ rfl (S4.out.alloc (.cells #[.int .i64 2, .int .i64 ((x : Int) % 16), .string ⟨#[]⟩] 41)) 2 rfl rfl _ [heldV x] rfl ?sees ?len ?_)
        case sees =>
          have hb := heapAllocNew (w2.alloc (.cells #[.int .i64 2, .int .i64 ((x : Int) % 16), .string ⟨#[]⟩] 41)) (.cells #[.int .i64 2, .int .i64 ((x : Int) % 16), .string ⟨#[]⟩] 41)
          rw [World.size_alloc] at hb
          refine sees_one _ ?_ ?_ ?_ hb <;> simp [heldV, h240]
        case len => simp; omega
        intro va vc w5 S6
        replace S6 := Lib.hid (S6.tail.tail)
        go_wp2
        refine ⟨⟨k + 1, by have := HX.out.2.2; omega, by have := HX.out.2.2; omega, by go_num, ?_⟩, by have := HX.out.2.2; simp [intOf]; omega⟩
        rw [← HX.out.1]; simpa using S6.out
      · have h240i : ¬ (240 : Int) ≤ (x : Int) := by omega
        replace S3 := Lib.hid S3
        clear S2 c0 b2 hb1 hnext hx hc hL
        go_wp2_with (at_builtin; refine wpList_append_sep rfl _ _ rfl (S3.out.alloc (.cells #[.int .i64 4, .int .i64 ((x : Int) % 16), .string ⟨#[]⟩] 41)) 2 rfl rfl _ [heldV x] rfl ?sees ?len ?_)
        case sees =>
          have hb := heapAllocNew (w2.alloc (.cells #[.int .i64 4, .int .i64 ((x : Int) % 16), .string ⟨#[]⟩] 41)) (.cells #[.int .i64 4, .int .i64 ((x : Int) % 16), .string ⟨#[]⟩] 41)
          rw [World.size_alloc] at hb
          refine sees_one _ ?_ ?_ ?_ hb <;> (unfold heldV; rw [if_neg h240]; rfl)
        case len => simp; omega
        intro va vc w5 S6
        replace S6 := Lib.hid (S6.tail.tail)
        go_wp2
        refine ⟨⟨k + 1, by have := HX.out.2.2; omega, by have := HX.out.2.2; omega, by go_num, ?_⟩, by have := HX.out.2.2; simp [intOf]; omega⟩
        rw [← HX.out.1]; simpa using S6.out
    · have hke : k = min B.length 12 := by omega
      have hfin : L = heldM B := by
        rw [← hL]; unfold heldM
        rw [hke]
        congr 1
        by_cases h : B.length ≤ 12
        · rw [Nat.min_eq_left h, List.take_length, List.take_of_length_le h]
        · rw [Nat.min_eq_right (by omega)]
      have HFN := Lib.hid hfin
      have S2 := Lib.hid (S1.swap.tail)
      clear S1 hke hfin hL
      by_cases hl : k < B.length
      · have hil : (k : Int) < B.length := by omega
        have hil2 : ¬ (k : Int) < 12 := by omega
        clear hlt
        go_wp2
        go_ret
        rw [← HFN.out]
        exact ⟨_, rfl, S2.out⟩
      · have hil : ¬ (k : Int) < B.length := by omega
        clear hlt
        go_wp2
        go_ret
        rw [← HFN.out]
        exact ⟨_, rfl, S2.out⟩
end Go.Proofs.Ytjinabglachglaa
