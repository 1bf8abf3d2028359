import Derived.Test.YtjinabglachglaaKeptA
/- A nil heap: every method. -/
namespace Go.Proofs.Ytjinabglachglaa
set_option linter.unusedSimpArgs false
open Go.RowKit
set_option linter.unusedVariables false
theorem nil_of (w : World) (v : V) :
    Calls Try.prog 52 #[.pointer none, v.val] w fun e w' => e = .returned (.pointer none) ∧ Below w.heap.size w w' := by
  simp only [V.val]
  go_enter Try.func52, Try.ntmps52
  go_wp2
  go_ret
  exact ⟨rfl, by (repeat (first | exact Below.refl _ _ | assumption | refine Below.drewN ?_ _ | refine Below.drew ?_ | refine Below.alloc ?_ (by (try simp only [World.size_alloc, size_drewN, size_setCell]); omega) _ | refine Below.setCell ?_ (by (try simp only [World.size_alloc, size_drewN, size_setCell]); omega) _))⟩
theorem nil_kind (w : World) (v : V) :
    Calls Try.prog 19 #[.pointer none, v.val] w fun e w' => e = .returned (.int .i64 0) ∧ Below w.heap.size w w' := by
  have HO := Lib.hid (fun W => nil_of W v)
  simp only [V.val] at HO ⊢
  go_enter Try.func19, Try.ntmps19
  go_wp2_with (go_at_call 52; refine (HO.out _).mono ?_; rintro e w1 ⟨rfl, hb1⟩)
  go_ret
  exact ⟨rfl, by exact Below.next (by (repeat (first | exact Below.refl _ _ | assumption | refine Below.drewN ?_ _ | refine Below.drew ?_ | refine Below.alloc ?_ (by (try simp only [World.size_alloc, size_drewN, size_setCell]); omega) _ | refine Below.setCell ?_ (by (try simp only [World.size_alloc, size_drewN, size_setCell]); omega) _))) hb1 (by (try simp only [World.size_alloc, size_drew, size_drewN, size_setCell]); omega)⟩
theorem nil_name (w : World) (v : V) :
    Calls Try.prog 67 #[.pointer none, v.val] w fun e w' => e = .returned (.string ⟨#[]⟩) ∧ Below w.heap.size w w' := by
  have HO := Lib.hid (fun W => nil_of W v)
  simp only [V.val] at HO ⊢
  go_enter Try.func67, Try.ntmps67
  go_wp2_with (go_at_call 52; refine (HO.out _).mono ?_; rintro e w1 ⟨rfl, hb1⟩)
  go_ret
  exact ⟨rfl, by exact Below.next (by (repeat (first | exact Below.refl _ _ | assumption | refine Below.drewN ?_ _ | refine Below.drew ?_ | refine Below.alloc ?_ (by (try simp only [World.size_alloc, size_drewN, size_setCell]); omega) _ | refine Below.setCell ?_ (by (try simp only [World.size_alloc, size_drewN, size_setCell]); omega) _))) hb1 (by (try simp only [World.size_alloc, size_drew, size_drewN, size_setCell]); omega)⟩
theorem nil_num (w : World) (v : V) :
    Calls Try.prog 35 #[.pointer none, v.val] w fun e w' => e = .returned (.int .i64 0) ∧ Below w.heap.size w w' := by
  have HO := Lib.hid (fun W => nil_of W v)
  simp only [V.val] at HO ⊢
  go_enter Try.func35, Try.ntmps35
  go_wp2_with (go_at_call 52; refine (HO.out _).mono ?_; rintro e w1 ⟨rfl, hb1⟩)
  go_ret
  exact ⟨rfl, by exact Below.next (by (repeat (first | exact Below.refl _ _ | assumption | refine Below.drewN ?_ _ | refine Below.drew ?_ | refine Below.alloc ?_ (by (try simp only [World.size_alloc, size_drewN, size_setCell]); omega) _ | refine Below.setCell ?_ (by (try simp only [World.size_alloc, size_drewN, size_setCell]); omega) _))) hb1 (by (try simp only [World.size_alloc, size_drew, size_drewN, size_setCell]); omega)⟩
theorem nil_count (w : World) (v : V) :
    Calls Try.prog 25 #[.pointer none, v.val] w fun e w' => e = .returned (.int .i64 0) ∧ Below w.heap.size w w' := by
  have HO := Lib.hid (fun W => nil_of W v)
  simp only [V.val] at HO ⊢
  go_enter Try.func25, Try.ntmps25
  go_wp2_with (go_at_call 52; refine (HO.out _).mono ?_; rintro e w1 ⟨rfl, hb1⟩)
  go_ret
  exact ⟨rfl, by exact Below.next (by (repeat (first | exact Below.refl _ _ | assumption | refine Below.drewN ?_ _ | refine Below.drew ?_ | refine Below.alloc ?_ (by (try simp only [World.size_alloc, size_drewN, size_setCell]); omega) _ | refine Below.setCell ?_ (by (try simp only [World.size_alloc, size_drewN, size_setCell]); omega) _))) hb1 (by (try simp only [World.size_alloc, size_drew, size_drewN, size_setCell]); omega)⟩
theorem nil_items (w : World) (v : V) :
    Calls Try.prog 37 #[.pointer none, v.val] w fun e w' => e = .returned (.slice none 0 0) ∧ Below w.heap.size w w' := by
  have HO := Lib.hid (fun W => nil_of W v)
  simp only [V.val] at HO ⊢
  go_enter Try.func37, Try.ntmps37
  go_wp2_with (go_at_call 52; refine (HO.out _).mono ?_; rintro e w1 ⟨rfl, hb1⟩)
  go_ret
  exact ⟨rfl, by exact Below.next (by (repeat (first | exact Below.refl _ _ | assumption | refine Below.drewN ?_ _ | refine Below.drew ?_ | refine Below.alloc ?_ (by (try simp only [World.size_alloc, size_drewN, size_setCell]); omega) _ | refine Below.setCell ?_ (by (try simp only [World.size_alloc, size_drewN, size_setCell]); omega) _))) hb1 (by (try simp only [World.size_alloc, size_drew, size_drewN, size_setCell]); omega)⟩
theorem nil_keys (w : World) (v : V) :
    Calls Try.prog 38 #[.pointer none, v.val] w fun e w' => e = .returned (.slice none 0 0) ∧ Below w.heap.size w w' := by
  have HO := Lib.hid (fun W => nil_of W v)
  simp only [V.val] at HO ⊢
  go_enter Try.func38, Try.ntmps38
  go_wp2_with (go_at_call 52; refine (HO.out _).mono ?_; rintro e w1 ⟨rfl, hb1⟩)
  go_ret
  exact ⟨rfl, by exact Below.next (by (repeat (first | exact Below.refl _ _ | assumption | refine Below.drewN ?_ _ | refine Below.drew ?_ | refine Below.alloc ?_ (by (try simp only [World.size_alloc, size_drewN, size_setCell]); omega) _ | refine Below.setCell ?_ (by (try simp only [World.size_alloc, size_drewN, size_setCell]); omega) _))) hb1 (by (try simp only [World.size_alloc, size_drew, size_drewN, size_setCell]); omega)⟩
theorem nil_refs (w : World) (v : V) :
    Calls Try.prog 22 #[.pointer none, v.val] w fun e w' => e = .returned (.slice none 0 0) ∧ Below w.heap.size w w' := by
  have HO := Lib.hid (fun W => nil_of W v)
  simp only [V.val] at HO ⊢
  go_enter Try.func22, Try.ntmps22
  go_wp2_with (go_at_call 52; refine (HO.out _).mono ?_; rintro e w1 ⟨rfl, hb1⟩)
  go_ret
  exact ⟨rfl, by exact Below.next (by (repeat (first | exact Below.refl _ _ | assumption | refine Below.drewN ?_ _ | refine Below.drew ?_ | refine Below.alloc ?_ (by (try simp only [World.size_alloc, size_drewN, size_setCell]); omega) _ | refine Below.setCell ?_ (by (try simp only [World.size_alloc, size_drewN, size_setCell]); omega) _))) hb1 (by (try simp only [World.size_alloc, size_drew, size_drewN, size_setCell]); omega)⟩
theorem nil_replace (w : World) (v : V) (i j : Int) (a : Option Addr) (x c : Nat) :
    Calls Try.prog 27 #[.pointer none, v.val, .int .i64 i, .int .i64 j, .slice a x c] w fun e w' => e = .returned (.bool false) ∧ Below w.heap.size w w' := by
  have HO := Lib.hid (fun W => nil_of W v)
  simp only [V.val] at HO ⊢
  go_enter Try.func27, Try.ntmps27
  go_wp2_with (go_at_call 52; refine (HO.out _).mono ?_; rintro e w1 ⟨rfl, hb1⟩)
  go_ret
  exact ⟨rfl, by exact Below.next (by (repeat (first | exact Below.refl _ _ | assumption | refine Below.drewN ?_ _ | refine Below.drew ?_ | refine Below.alloc ?_ (by (try simp only [World.size_alloc, size_drewN, size_setCell]); omega) _ | refine Below.setCell ?_ (by (try simp only [World.size_alloc, size_drewN, size_setCell]); omega) _))) hb1 (by (try simp only [World.size_alloc, size_drew, size_drewN, size_setCell]); omega)⟩
theorem nil_put (w : World) (v k x : V) :
    Calls Try.prog 28 #[.pointer none, v.val, k.val, x.val] w fun e w' => e = .returned (.bool false) ∧ Below w.heap.size w w' := by
  have HO := Lib.hid (fun W => nil_of W v)
  simp only [V.val] at HO ⊢
  go_enter Try.func28, Try.ntmps28
  go_wp2_with (go_at_call 52; refine (HO.out _).mono ?_; rintro e w1 ⟨rfl, hb1⟩)
  go_ret
  exact ⟨rfl, by exact Below.next (by (repeat (first | exact Below.refl _ _ | assumption | refine Below.drewN ?_ _ | refine Below.drew ?_ | refine Below.alloc ?_ (by (try simp only [World.size_alloc, size_drewN, size_setCell]); omega) _ | refine Below.setCell ?_ (by (try simp only [World.size_alloc, size_drewN, size_setCell]); omega) _))) hb1 (by (try simp only [World.size_alloc, size_drew, size_drewN, size_setCell]); omega)⟩
theorem nil_live (w : World) (k : Int) :
    Calls Try.prog 30 #[.pointer none, .int .i64 k] w fun e w' => e = .returned (.int .i64 0) ∧ Below w.heap.size w w' := by
  go_enter Try.func30, Try.ntmps30
  go_wp2
  go_ret
  exact ⟨rfl, by (repeat (first | exact Below.refl _ _ | assumption | refine Below.drewN ?_ _ | refine Below.drew ?_ | refine Below.alloc ?_ (by (try simp only [World.size_alloc, size_drewN, size_setCell]); omega) _ | refine Below.setCell ?_ (by (try simp only [World.size_alloc, size_drewN, size_setCell]); omega) _))⟩
theorem nil_all (w : World) :
    Calls Try.prog 23 #[.pointer none] w fun e w' => e = .returned (.slice none 0 0) ∧ Below w.heap.size w w' := by
  go_enter Try.func23, Try.ntmps23
  go_wp2
  go_ret
  exact ⟨rfl, by (repeat (first | exact Below.refl _ _ | assumption | refine Below.drewN ?_ _ | refine Below.drew ?_ | refine Below.alloc ?_ (by (try simp only [World.size_alloc, size_drewN, size_setCell]); omega) _ | refine Below.setCell ?_ (by (try simp only [World.size_alloc, size_drewN, size_setCell]); omega) _))⟩
theorem nil_sweep (w : World) (a : Option Addr) (x c : Nat) :
    Calls Try.prog 29 #[.pointer none, .slice a x c] w fun e w' => e = .returned (.int .i64 0) ∧ Below w.heap.size w w' := by
  go_enter Try.func29, Try.ntmps29
  go_wp2
  go_ret
  exact ⟨rfl, by (repeat (first | exact Below.refl _ _ | assumption | refine Below.drewN ?_ _ | refine Below.drew ?_ | refine Below.alloc ?_ (by (try simp only [World.size_alloc, size_drewN, size_setCell]); omega) _ | refine Below.setCell ?_ (by (try simp only [World.size_alloc, size_drewN, size_setCell]); omega) _))⟩
theorem nil_make (w : World) (k n : Int) (s : ByteArray) (a : Option Addr) (x c : Nat) :
    Calls Try.prog 26 #[.pointer none, .int .i64 k, .string s, .int .i64 n, .slice a x c] w fun e w' => e = .returned (V.zero.val) ∧ Below w.heap.size w w' := by
  go_enter Try.func26, Try.ntmps26
  go_wp2
  exact bodyPost_ret (v := V.zero.val) (by simp [results, Try.results26, go_sem, V.zero, V.val]) rfl ⟨rfl, by (repeat (first | exact Below.refl _ _ | assumption | refine Below.drewN ?_ _ | refine Below.drew ?_ | refine Below.alloc ?_ (by (try simp only [World.size_alloc, size_drewN, size_setCell]); omega) _ | refine Below.setCell ?_ (by (try simp only [World.size_alloc, size_drewN, size_setCell]); omega) _))⟩
set_option maxRecDepth 100000 in
theorem nil_free (w : World) (sv : Value) (ns : List Int) (hs : SeesN w sv ns) (hok : ∀ n ∈ ns, okI n) :
    Calls Try.prog 43 #[.pointer none, sv] w fun e w' => e = .returned (.int .i64 0) ∧ Below w.heap.size w w' := by
  obtain ⟨sa, scap, rfl, q1, q2, q3⟩ := hs
  have hbig : (ns.length : Int) ≤ 9223372036854775807 := by unfold maxLen at q2; omega
  have HQ := Lib.hid q3
  have HK := Lib.hid hok
  clear q1 q2 q3 hok
  go_enter Try.func43, Try.ntmps43
  go_wp2
  go_loopw [5, 10] (fun t i wr => ∃ k : Nat, k ≤ ns.length ∧ i = .int .i64 k ∧ t = .int .i64 0 ∧ Below w.heap.size w wr) (fun _ i _ => ns.length - (intOf i).toNat)
  case atStart => exact ⟨0, by omega, rfl, rfl, Below.refl _ _⟩
  case round =>
    obtain ⟨k, hk, rfl, rfl, hB⟩ := hrel
    by_cases hlt : k < ns.length
    · obtain ⟨n, hn⟩ : ∃ n, ns[k]? = some n := ⟨ns[k], by simp [hlt]⟩
      have hokn : okI n := HK.out n (List.mem_of_getElem? hn)
      obtain ⟨g, o, rfl, hc⟩ : ∃ g o, sa = some ⟨g, o, none⟩ ∧ ∀ i n, ns[i]? = some n → w.cell? ⟨g, o + i, none⟩ = some (.int .i64 n) := by
        rcases HQ.out with h4 | h4
        · subst h4; simp at hlt
        · exact h4
      have hcell := cellBelow (hc k n hn) hB
      have hil : (k : Int) < ns.length := by omega
      have HOF := Lib.hid (nil_of wr (V.ref n hokn))
      simp only [V.val, V.ref] at HOF
      have HL := Lib.hid hlt
      replace hB := Lib.hid hB
      clear hc hn hlt hokn
      go_wp2_with fail
      refine HOF.out.mono ?_
      rintro e w1 ⟨rfl, hb1⟩
      have HB1 := Lib.hid (Below.next hB.out hb1 hB.out.size)
      clear hb1
      go_wp2
      exact ⟨⟨k + 1, by have := HL.out; omega, by go_num, rfl, HB1.out⟩, by have := HL.out; simp [intOf]; omega⟩
    · obtain rfl : k = ns.length := by omega
      replace hB := Lib.hid hB
      clear hlt
      go_wp2
      go_ret
      exact ⟨rfl, hB.out⟩
end Go.Proofs.Ytjinabglachglaa
