import Derived.Test.YtoancpjlkhijiaaNumbers
import Derived.Test.YtoancpjlkhijiaaOp
/- A nil heap: every method. -/
namespace Go.Proofs.Ytoancpjlkhijiaa
set_option linter.unusedSimpArgs false
open Go.RowKit
set_option linter.unusedVariables false
theorem nil_of (w : World) (v : V) :
    Calls Try.prog 45 #[.pointer none, v.val] w fun e w' => e = .returned (.pointer none) ∧ Below w.heap.size w w' := by
  simp only [V.val]
  go_enter Try.func45, Try.ntmps45
  go_wp2
  go_ret
  exact ⟨rfl, by (repeat (first | exact Below.refl _ _ | assumption | refine Below.drewN ?_ _ | refine Below.drew ?_ | refine Below.alloc ?_ (by (try simp only [World.size_alloc, size_drewN, size_setCell]); omega) _ | refine Below.setCell ?_ (by (try simp only [World.size_alloc, size_drewN, size_setCell]); omega) _))⟩
theorem nil_kind (w : World) (v : V) :
    Calls Try.prog 24 #[.pointer none, v.val] w fun e w' => e = .returned (.int .i64 0) ∧ Below w.heap.size w w' := by
  have HO := Lib.hid (fun W => nil_of W v)
  simp only [V.val] at HO ⊢
  go_enter Try.func24, Try.ntmps24
  go_wp2_with (go_at_call 45; refine (HO.out _).mono ?_; rintro e w1 ⟨rfl, hb1⟩)
  go_ret
  exact ⟨rfl, by exact Below.next (by (repeat (first | exact Below.refl _ _ | assumption | refine Below.drewN ?_ _ | refine Below.drew ?_ | refine Below.alloc ?_ (by (try simp only [World.size_alloc, size_drewN, size_setCell]); omega) _ | refine Below.setCell ?_ (by (try simp only [World.size_alloc, size_drewN, size_setCell]); omega) _))) hb1 (by (try simp only [World.size_alloc, size_drew, size_drewN, size_setCell]); omega)⟩
theorem nil_name (w : World) (v : V) :
    Calls Try.prog 42 #[.pointer none, v.val] w fun e w' => e = .returned (.string ⟨#[]⟩) ∧ Below w.heap.size w w' := by
  have HO := Lib.hid (fun W => nil_of W v)
  simp only [V.val] at HO ⊢
  go_enter Try.func42, Try.ntmps42
  go_wp2_with (go_at_call 45; refine (HO.out _).mono ?_; rintro e w1 ⟨rfl, hb1⟩)
  go_ret
  exact ⟨rfl, by exact Below.next (by (repeat (first | exact Below.refl _ _ | assumption | refine Below.drewN ?_ _ | refine Below.drew ?_ | refine Below.alloc ?_ (by (try simp only [World.size_alloc, size_drewN, size_setCell]); omega) _ | refine Below.setCell ?_ (by (try simp only [World.size_alloc, size_drewN, size_setCell]); omega) _))) hb1 (by (try simp only [World.size_alloc, size_drew, size_drewN, size_setCell]); omega)⟩
theorem nil_num (w : World) (v : V) :
    Calls Try.prog 39 #[.pointer none, v.val] w fun e w' => e = .returned (.int .i64 0) ∧ Below w.heap.size w w' := by
  have HO := Lib.hid (fun W => nil_of W v)
  simp only [V.val] at HO ⊢
  go_enter Try.func39, Try.ntmps39
  go_wp2_with (go_at_call 45; refine (HO.out _).mono ?_; rintro e w1 ⟨rfl, hb1⟩)
  go_ret
  exact ⟨rfl, by exact Below.next (by (repeat (first | exact Below.refl _ _ | assumption | refine Below.drewN ?_ _ | refine Below.drew ?_ | refine Below.alloc ?_ (by (try simp only [World.size_alloc, size_drewN, size_setCell]); omega) _ | refine Below.setCell ?_ (by (try simp only [World.size_alloc, size_drewN, size_setCell]); omega) _))) hb1 (by (try simp only [World.size_alloc, size_drew, size_drewN, size_setCell]); omega)⟩
theorem nil_len (w : World) (v : V) :
    Calls Try.prog 43 #[.pointer none, v.val] w fun e w' => e = .returned (.int .i64 0) ∧ Below w.heap.size w w' := by
  have HO := Lib.hid (fun W => nil_of W v)
  simp only [V.val] at HO ⊢
  go_enter Try.func43, Try.ntmps43
  go_wp2_with (go_at_call 45; refine (HO.out _).mono ?_; rintro e w1 ⟨rfl, hb1⟩)
  go_ret
  exact ⟨rfl, by exact Below.next (by (repeat (first | exact Below.refl _ _ | assumption | refine Below.drewN ?_ _ | refine Below.drew ?_ | refine Below.alloc ?_ (by (try simp only [World.size_alloc, size_drewN, size_setCell]); omega) _ | refine Below.setCell ?_ (by (try simp only [World.size_alloc, size_drewN, size_setCell]); omega) _))) hb1 (by (try simp only [World.size_alloc, size_drew, size_drewN, size_setCell]); omega)⟩
theorem nil_size (w : World) (v : V) :
    Calls Try.prog 38 #[.pointer none, v.val] w fun e w' => e = .returned (.int .i64 0) ∧ Below w.heap.size w w' := by
  have HO := Lib.hid (fun W => nil_of W v)
  simp only [V.val] at HO ⊢
  go_enter Try.func38, Try.ntmps38
  go_wp2_with (go_at_call 45; refine (HO.out _).mono ?_; rintro e w1 ⟨rfl, hb1⟩)
  go_ret
  exact ⟨rfl, by exact Below.next (by (repeat (first | exact Below.refl _ _ | assumption | refine Below.drewN ?_ _ | refine Below.drew ?_ | refine Below.alloc ?_ (by (try simp only [World.size_alloc, size_drewN, size_setCell]); omega) _ | refine Below.setCell ?_ (by (try simp only [World.size_alloc, size_drewN, size_setCell]); omega) _))) hb1 (by (try simp only [World.size_alloc, size_drew, size_drewN, size_setCell]); omega)⟩
theorem nil_count (w : World) (v : V) :
    Calls Try.prog 31 #[.pointer none, v.val] w fun e w' => e = .returned (.int .i64 0) ∧ Below w.heap.size w w' := by
  have HO := Lib.hid (fun W => nil_of W v)
  simp only [V.val] at HO ⊢
  go_enter Try.func31, Try.ntmps31
  go_wp2_with (go_at_call 45; refine (HO.out _).mono ?_; rintro e w1 ⟨rfl, hb1⟩)
  go_ret
  exact ⟨rfl, by exact Below.next (by (repeat (first | exact Below.refl _ _ | assumption | refine Below.drewN ?_ _ | refine Below.drew ?_ | refine Below.alloc ?_ (by (try simp only [World.size_alloc, size_drewN, size_setCell]); omega) _ | refine Below.setCell ?_ (by (try simp only [World.size_alloc, size_drewN, size_setCell]); omega) _))) hb1 (by (try simp only [World.size_alloc, size_drew, size_drewN, size_setCell]); omega)⟩
theorem nil_items (w : World) (v : V) :
    Calls Try.prog 15 #[.pointer none, v.val] w fun e w' => e = .returned (.slice none 0 0) ∧ Below w.heap.size w w' := by
  have HO := Lib.hid (fun W => nil_of W v)
  simp only [V.val] at HO ⊢
  go_enter Try.func15, Try.ntmps15
  go_wp2_with (go_at_call 45; refine (HO.out _).mono ?_; rintro e w1 ⟨rfl, hb1⟩)
  go_ret
  exact ⟨rfl, by exact Below.next (by (repeat (first | exact Below.refl _ _ | assumption | refine Below.drewN ?_ _ | refine Below.drew ?_ | refine Below.alloc ?_ (by (try simp only [World.size_alloc, size_drewN, size_setCell]); omega) _ | refine Below.setCell ?_ (by (try simp only [World.size_alloc, size_drewN, size_setCell]); omega) _))) hb1 (by (try simp only [World.size_alloc, size_drew, size_drewN, size_setCell]); omega)⟩
theorem nil_keys (w : World) (v : V) :
    Calls Try.prog 22 #[.pointer none, v.val] w fun e w' => e = .returned (.slice none 0 0) ∧ Below w.heap.size w w' := by
  have HO := Lib.hid (fun W => nil_of W v)
  simp only [V.val] at HO ⊢
  go_enter Try.func22, Try.ntmps22
  go_wp2_with (go_at_call 45; refine (HO.out _).mono ?_; rintro e w1 ⟨rfl, hb1⟩)
  go_ret
  exact ⟨rfl, by exact Below.next (by (repeat (first | exact Below.refl _ _ | assumption | refine Below.drewN ?_ _ | refine Below.drew ?_ | refine Below.alloc ?_ (by (try simp only [World.size_alloc, size_drewN, size_setCell]); omega) _ | refine Below.setCell ?_ (by (try simp only [World.size_alloc, size_drewN, size_setCell]); omega) _))) hb1 (by (try simp only [World.size_alloc, size_drew, size_drewN, size_setCell]); omega)⟩
theorem nil_refs (w : World) (v : V) :
    Calls Try.prog 30 #[.pointer none, v.val] w fun e w' => e = .returned (.slice none 0 0) ∧ Below w.heap.size w w' := by
  have HO := Lib.hid (fun W => nil_of W v)
  simp only [V.val] at HO ⊢
  go_enter Try.func30, Try.ntmps30
  go_wp2_with (go_at_call 45; refine (HO.out _).mono ?_; rintro e w1 ⟨rfl, hb1⟩)
  go_ret
  exact ⟨rfl, by exact Below.next (by (repeat (first | exact Below.refl _ _ | assumption | refine Below.drewN ?_ _ | refine Below.drew ?_ | refine Below.alloc ?_ (by (try simp only [World.size_alloc, size_drewN, size_setCell]); omega) _ | refine Below.setCell ?_ (by (try simp only [World.size_alloc, size_drewN, size_setCell]); omega) _))) hb1 (by (try simp only [World.size_alloc, size_drew, size_drewN, size_setCell]); omega)⟩
theorem nil_at (w : World) (v : V) (i : Int) :
    Calls Try.prog 40 #[.pointer none, v.val, .int .i64 i] w fun e w' => e = .returned (.tuple #[V.zero.val, .bool false]) ∧ Below w.heap.size w w' := by
  have HO := Lib.hid (fun W => nil_of W v)
  simp only [V.val] at HO ⊢
  go_enter Try.func40, Try.ntmps40
  go_wp2_with (go_at_call 45; refine (HO.out _).mono ?_; rintro e w1 ⟨rfl, hb1⟩; have hB : Below w.heap.size w w1 := (by exact Below.next (by (repeat (first | exact Below.refl _ _ | assumption | refine Below.drewN ?_ _ | refine Below.drew ?_ | refine Below.alloc ?_ (by (try simp only [World.size_alloc, size_drewN, size_setCell]); omega) _ | refine Below.setCell ?_ (by (try simp only [World.size_alloc, size_drewN, size_setCell]); omega) _))) hb1 (by (try simp only [World.size_alloc, size_drew, size_drewN, size_setCell]); omega)); obtain ⟨hc, hf⟩ := bcell hb1; have hz : w.heap.size + 1 < w1.heap.size := (by have := hb1.size; simp at this; omega))
  exact bodyPost_ret (v := .tuple #[.agg #[.int .i64 0, .int .i64 0, .string ⟨#[]⟩], .bool false]) (by simp [results, Try.results40, go_sem, hc]) rfl ⟨rfl, by (repeat (first | exact Below.refl _ _ | assumption | refine Below.drewN ?_ _ | refine Below.drew ?_ | refine Below.alloc ?_ (by (try simp only [World.size_alloc, size_drewN, size_setCell]); omega) _ | refine Below.setCell ?_ (by (try simp only [World.size_alloc, size_drewN, size_setCell]); omega) _))⟩
theorem nil_get (w : World) (v k : V) :
    Calls Try.prog 41 #[.pointer none, v.val, k.val] w fun e w' => e = .returned (.tuple #[V.zero.val, .bool false]) ∧ Below w.heap.size w w' := by
  have HO := Lib.hid (fun W => nil_of W v)
  simp only [V.val] at HO ⊢
  go_enter Try.func41, Try.ntmps41
  go_wp2_with (go_at_call 45; refine (HO.out _).mono ?_; rintro e w1 ⟨rfl, hb1⟩; have hB : Below w.heap.size w w1 := (by exact Below.next (by (repeat (first | exact Below.refl _ _ | assumption | refine Below.drewN ?_ _ | refine Below.drew ?_ | refine Below.alloc ?_ (by (try simp only [World.size_alloc, size_drewN, size_setCell]); omega) _ | refine Below.setCell ?_ (by (try simp only [World.size_alloc, size_drewN, size_setCell]); omega) _))) hb1 (by (try simp only [World.size_alloc, size_drew, size_drewN, size_setCell]); omega)); obtain ⟨hc, hf⟩ := bcell hb1; have hz : w.heap.size + 1 < w1.heap.size := (by have := hb1.size; simp at this; omega))
  exact bodyPost_ret (v := .tuple #[.agg #[.int .i64 0, .int .i64 0, .string ⟨#[]⟩], .bool false]) (by simp [results, Try.results41, go_sem, hc]) rfl ⟨rfl, by (repeat (first | exact Below.refl _ _ | assumption | refine Below.drewN ?_ _ | refine Below.drew ?_ | refine Below.alloc ?_ (by (try simp only [World.size_alloc, size_drewN, size_setCell]); omega) _ | refine Below.setCell ?_ (by (try simp only [World.size_alloc, size_drewN, size_setCell]); omega) _))⟩
theorem nil_setNum (w : World) (v : V) (n : Int) :
    Calls Try.prog 36 #[.pointer none, v.val, .int .i64 n] w fun e w' => e = .returned (.bool false) ∧ Below w.heap.size w w' := by
  have HO := Lib.hid (fun W => nil_of W v)
  simp only [V.val] at HO ⊢
  go_enter Try.func36, Try.ntmps36
  go_wp2_with (go_at_call 45; refine (HO.out _).mono ?_; rintro e w1 ⟨rfl, hb1⟩)
  go_ret
  exact ⟨rfl, by exact Below.next (by (repeat (first | exact Below.refl _ _ | assumption | refine Below.drewN ?_ _ | refine Below.drew ?_ | refine Below.alloc ?_ (by (try simp only [World.size_alloc, size_drewN, size_setCell]); omega) _ | refine Below.setCell ?_ (by (try simp only [World.size_alloc, size_drewN, size_setCell]); omega) _))) hb1 (by (try simp only [World.size_alloc, size_drew, size_drewN, size_setCell]); omega)⟩
theorem nil_setAt (w : World) (v : V) (i : Int) (x : V) :
    Calls Try.prog 52 #[.pointer none, v.val, .int .i64 i, x.val] w fun e w' => e = .returned (.bool false) ∧ Below w.heap.size w w' := by
  have HO := Lib.hid (fun W => nil_of W v)
  simp only [V.val] at HO ⊢
  go_enter Try.func52, Try.ntmps52
  go_wp2_with (go_at_call 45; refine (HO.out _).mono ?_; rintro e w1 ⟨rfl, hb1⟩)
  go_ret
  exact ⟨rfl, by exact Below.next (by (repeat (first | exact Below.refl _ _ | assumption | refine Below.drewN ?_ _ | refine Below.drew ?_ | refine Below.alloc ?_ (by (try simp only [World.size_alloc, size_drewN, size_setCell]); omega) _ | refine Below.setCell ?_ (by (try simp only [World.size_alloc, size_drewN, size_setCell]); omega) _))) hb1 (by (try simp only [World.size_alloc, size_drew, size_drewN, size_setCell]); omega)⟩
theorem nil_replace (w : World) (v : V) (i j : Int) (a : Option Addr) (x c : Nat) :
    Calls Try.prog 14 #[.pointer none, v.val, .int .i64 i, .int .i64 j, .slice a x c] w fun e w' => e = .returned (.bool false) ∧ Below w.heap.size w w' := by
  have HO := Lib.hid (fun W => nil_of W v)
  simp only [V.val] at HO ⊢
  go_enter Try.func14, Try.ntmps14
  go_wp2_with (go_at_call 45; refine (HO.out _).mono ?_; rintro e w1 ⟨rfl, hb1⟩)
  go_ret
  exact ⟨rfl, by exact Below.next (by (repeat (first | exact Below.refl _ _ | assumption | refine Below.drewN ?_ _ | refine Below.drew ?_ | refine Below.alloc ?_ (by (try simp only [World.size_alloc, size_drewN, size_setCell]); omega) _ | refine Below.setCell ?_ (by (try simp only [World.size_alloc, size_drewN, size_setCell]); omega) _))) hb1 (by (try simp only [World.size_alloc, size_drew, size_drewN, size_setCell]); omega)⟩
theorem nil_put (w : World) (v k x : V) :
    Calls Try.prog 37 #[.pointer none, v.val, k.val, x.val] w fun e w' => e = .returned (.bool false) ∧ Below w.heap.size w w' := by
  have HO := Lib.hid (fun W => nil_of W v)
  simp only [V.val] at HO ⊢
  go_enter Try.func37, Try.ntmps37
  go_wp2_with (go_at_call 45; refine (HO.out _).mono ?_; rintro e w1 ⟨rfl, hb1⟩)
  go_ret
  exact ⟨rfl, by exact Below.next (by (repeat (first | exact Below.refl _ _ | assumption | refine Below.drewN ?_ _ | refine Below.drew ?_ | refine Below.alloc ?_ (by (try simp only [World.size_alloc, size_drewN, size_setCell]); omega) _ | refine Below.setCell ?_ (by (try simp only [World.size_alloc, size_drewN, size_setCell]); omega) _))) hb1 (by (try simp only [World.size_alloc, size_drew, size_drewN, size_setCell]); omega)⟩
theorem nil_del (w : World) (v k : V) :
    Calls Try.prog 53 #[.pointer none, v.val, k.val] w fun e w' => e = .returned (.bool false) ∧ Below w.heap.size w w' := by
  have HO := Lib.hid (fun W => nil_of W v)
  simp only [V.val] at HO ⊢
  go_enter Try.func53, Try.ntmps53
  go_wp2_with (go_at_call 45; refine (HO.out _).mono ?_; rintro e w1 ⟨rfl, hb1⟩)
  go_ret
  exact ⟨rfl, by exact Below.next (by (repeat (first | exact Below.refl _ _ | assumption | refine Below.drewN ?_ _ | refine Below.drew ?_ | refine Below.alloc ?_ (by (try simp only [World.size_alloc, size_drewN, size_setCell]); omega) _ | refine Below.setCell ?_ (by (try simp only [World.size_alloc, size_drewN, size_setCell]); omega) _))) hb1 (by (try simp only [World.size_alloc, size_drew, size_drewN, size_setCell]); omega)⟩
theorem nil_live (w : World) (k : Int) :
    Calls Try.prog 32 #[.pointer none, .int .i64 k] w fun e w' => e = .returned (.int .i64 0) ∧ Below w.heap.size w w' := by
  go_enter Try.func32, Try.ntmps32
  go_wp2
  go_ret
  exact ⟨rfl, by (repeat (first | exact Below.refl _ _ | assumption | refine Below.drewN ?_ _ | refine Below.drew ?_ | refine Below.alloc ?_ (by (try simp only [World.size_alloc, size_drewN, size_setCell]); omega) _ | refine Below.setCell ?_ (by (try simp only [World.size_alloc, size_drewN, size_setCell]); omega) _))⟩
theorem nil_all (w : World) :
    Calls Try.prog 29 #[.pointer none] w fun e w' => e = .returned (.slice none 0 0) ∧ Below w.heap.size w w' := by
  go_enter Try.func29, Try.ntmps29
  go_wp2
  go_ret
  exact ⟨rfl, by (repeat (first | exact Below.refl _ _ | assumption | refine Below.drewN ?_ _ | refine Below.drew ?_ | refine Below.alloc ?_ (by (try simp only [World.size_alloc, size_drewN, size_setCell]); omega) _ | refine Below.setCell ?_ (by (try simp only [World.size_alloc, size_drewN, size_setCell]); omega) _))⟩
theorem nil_sweep (w : World) (a : Option Addr) (x c : Nat) :
    Calls Try.prog 23 #[.pointer none, .slice a x c] w fun e w' => e = .returned (.int .i64 0) ∧ Below w.heap.size w w' := by
  go_enter Try.func23, Try.ntmps23
  go_wp2
  go_ret
  exact ⟨rfl, by (repeat (first | exact Below.refl _ _ | assumption | refine Below.drewN ?_ _ | refine Below.drew ?_ | refine Below.alloc ?_ (by (try simp only [World.size_alloc, size_drewN, size_setCell]); omega) _ | refine Below.setCell ?_ (by (try simp only [World.size_alloc, size_drewN, size_setCell]); omega) _))⟩
theorem nil_make (w : World) (k n : Int) (s : ByteArray) (a : Option Addr) (x c : Nat) :
    Calls Try.prog 44 #[.pointer none, .int .i64 k, .string s, .int .i64 n, .slice a x c] w fun e w' => e = .returned (V.zero.val) ∧ Below w.heap.size w w' := by
  go_enter Try.func44, Try.ntmps44
  go_wp2
  exact bodyPost_ret (v := V.zero.val) (by simp [results, Try.results44, go_sem, V.zero, V.val]) rfl ⟨rfl, by (repeat (first | exact Below.refl _ _ | assumption | refine Below.drewN ?_ _ | refine Below.drew ?_ | refine Below.alloc ?_ (by (try simp only [World.size_alloc, size_drewN, size_setCell]); omega) _ | refine Below.setCell ?_ (by (try simp only [World.size_alloc, size_drewN, size_setCell]); omega) _))⟩
set_option maxRecDepth 100000 in
theorem nil_free (w : World) (sv : Value) (ns : List Int) (hs : SeesN w sv ns) (hok : ∀ n ∈ ns, okI n) :
    Calls Try.prog 35 #[.pointer none, sv] w fun e w' => e = .returned (.int .i64 0) ∧ Below w.heap.size w w' := by
  obtain ⟨sa, scap, rfl, q1, q2, q3⟩ := hs
  have hbig : (ns.length : Int) ≤ 9223372036854775807 := by unfold maxLen at q2; omega
  have HQ := Lib.hid q3
  have HK := Lib.hid hok
  clear q1 q2 q3 hok
  go_enter Try.func35, Try.ntmps35
  go_wp2
  go_loopw [5, 10] (fun t i wr => ∃ k : Nat, k ≤ ns.length ∧ i = .int .i64 k ∧ t = .int .i64 0 ∧ Below w.heap.size w wr) (fun _ i _ => ns.length - (intOf i).toNat)
  case atStart => exact ⟨0, by omega, rfl, rfl, Below.refl _ _⟩
  case round =>
    obtain ⟨k, hk, rfl, rfl, hB⟩ := hrel
    by_cases hlt : k < ns.length
    · obtain ⟨n, hn⟩ : ∃ n, ns[k]? = some n := ⟨ns[k], by simp [hlt]⟩
      have hokn : okI n := HK.out n (List.mem_of_getElem? hn)
      obtain ⟨g, o, rfl, hc⟩ : ∃ g o, sa = some ⟨g, o, none⟩ ∧ ∀ i n, ns[i]? = some n → w.cell? ⟨g, o + i, none⟩ = some (.int .i64 n) := by
        rcases HQ.out with h4 | h4
        · subst h4; simp at hlt
        · exact h4
      have hcell := cellBelow (hc k n hn) hB
      have hil : (k : Int) < ns.length := by omega
      have HOF := Lib.hid (nil_of wr (V.ref n hokn))
      simp only [V.val, V.ref] at HOF
      have HL := Lib.hid hlt
      replace hB := Lib.hid hB
      clear hc hn hlt hokn
      go_wp2_with fail
      refine HOF.out.mono ?_
      rintro e w1 ⟨rfl, hb1⟩
      have HB1 := Lib.hid (Below.next hB.out hb1 hB.out.size)
      clear hb1
      go_wp2
      exact ⟨⟨k + 1, by have := HL.out; omega, by go_num, rfl, HB1.out⟩, by have := HL.out; simp [intOf]; omega⟩
    · obtain rfl : k = ns.length := by omega
      replace hB := Lib.hid hB
      clear hlt
      go_wp2
      go_ret
      exact ⟨rfl, hB.out⟩
end Go.Proofs.Ytoancpjlkhijiaa
/- A nil heap: the law's do. -/
namespace Go.Proofs.Ytoancpjlkhijiaa
set_option linter.unusedSimpArgs false
open Go.RowKit
set_option linter.unusedVariables false
def DoNil (w : World) (e : Ending) (w' : World) : Prop := e = .returned (.tuple #[.int .i64 0, V.zero.val]) ∧ Below w.heap.size w w'
set_option maxRecDepth 100000 in
theorem nil_do1 (w : World) (o : OpM) (hd : o.d = 1) (hin : SeesV w o.sl o.l) (hlen : o.l.length ≤ 8796093022208) : Calls Try.prog 26 #[.pointer none, o.val] w (DoNil w) := by
  obtain ⟨d, kd, i, j, nm, n, v, k, x, a, l, cap, hd', _, _, _, hn, _⟩ := o
  simp only at hd
  subst hd
  simp only [OpM.val, OpM.sl] at *
  have HIN := Lib.hid (And.intro hin hlen)
  have HO := Lib.hid (fun W => nil_make W kd n nm a l.length cap)
  clear hin hlen hd' hn
  try simp only [V.val] at *
  go_enter Try.func26, Try.ntmps26
  go_wp2_with fail
  refine (HO.out _).mono ?_
  rintro e w1 ⟨rfl, hb1⟩
  have hx := boxAt hb1
  simp only [World.size_alloc] at hx
  obtain ⟨p0, p1, p2, p3, p4, p5⟩ := valBlk hx
  have hz := blockLt hx
  have hB : Below w.heap.size w w1 := by exact Below.next (by (repeat (first | exact Below.refl _ _ | assumption | refine Below.drewN ?_ _ | refine Below.drew ?_ | refine Below.alloc ?_ (by (try simp only [World.size_alloc, size_drewN, size_setCell]); omega) _ | refine Below.setCell ?_ (by (try simp only [World.size_alloc, size_drewN, size_setCell]); omega) _))) hb1 (by (try simp only [World.size_alloc, size_drew, size_drewN, size_setCell]); omega)
  go_wp2
  exact bodyPost_ret (v := .tuple #[.int .i64 0, .agg #[.int .i64 0, .int .i64 0, .string ⟨#[]⟩]]) (by simp [results, Try.results26, go_sem, p0, p1, p2, V.zero]) rfl ⟨rfl, by (repeat (first | exact Below.refl _ _ | assumption | refine Below.drewN ?_ _ | refine Below.drew ?_ | refine Below.alloc ?_ (by (try simp only [World.size_alloc, size_drewN, size_setCell]); omega) _ | refine Below.setCell ?_ (by (try simp only [World.size_alloc, size_drewN, size_setCell]); omega) _))⟩
set_option maxRecDepth 100000 in
theorem nil_do2 (w : World) (o : OpM) (hd : o.d = 2) (hin : SeesV w o.sl o.l) (hlen : o.l.length ≤ 8796093022208) : Calls Try.prog 26 #[.pointer none, o.val] w (DoNil w) := by
  obtain ⟨d, kd, i, j, nm, n, v, k, x, a, l, cap, hd', _, _, _, hn, _⟩ := o
  simp only at hd
  subst hd
  simp only [OpM.val, OpM.sl] at *
  have HIN := Lib.hid (And.intro hin hlen)
  have HO := Lib.hid (fun W => nil_setNum W v n)
  clear hin hlen hd' hn
  try simp only [V.val] at *
  go_enter Try.func26, Try.ntmps26
  go_wp2_with fail
  refine (HO.out _).mono ?_
  rintro e w1 ⟨rfl, hb1⟩
  have hx := boxAt hb1
  simp only [World.size_alloc] at hx
  obtain ⟨p0, p1, p2, p3, p4, p5⟩ := valBlk hx
  have hz := blockLt hx
  have hB : Below w.heap.size w w1 := by exact Below.next (by (repeat (first | exact Below.refl _ _ | assumption | refine Below.drewN ?_ _ | refine Below.drew ?_ | refine Below.alloc ?_ (by (try simp only [World.size_alloc, size_drewN, size_setCell]); omega) _ | refine Below.setCell ?_ (by (try simp only [World.size_alloc, size_drewN, size_setCell]); omega) _))) hb1 (by (try simp only [World.size_alloc, size_drew, size_drewN, size_setCell]); omega)
  go_wp2
  exact bodyPost_ret (v := .tuple #[.int .i64 0, .agg #[.int .i64 0, .int .i64 0, .string ⟨#[]⟩]]) (by simp [results, Try.results26, go_sem, p0, p1, p2]) rfl ⟨rfl, by (repeat (first | exact Below.refl _ _ | assumption | refine Below.drewN ?_ _ | refine Below.drew ?_ | refine Below.alloc ?_ (by (try simp only [World.size_alloc, size_drewN, size_setCell]); omega) _ | refine Below.setCell ?_ (by (try simp only [World.size_alloc, size_drewN, size_setCell]); omega) _))⟩
set_option maxRecDepth 100000 in
theorem nil_do3 (w : World) (o : OpM) (hd : o.d = 3) (hin : SeesV w o.sl o.l) (hlen : o.l.length ≤ 8796093022208) : Calls Try.prog 26 #[.pointer none, o.val] w (DoNil w) := by
  obtain ⟨d, kd, i, j, nm, n, v, k, x, a, l, cap, hd', _, _, _, hn, _⟩ := o
  simp only at hd
  subst hd
  simp only [OpM.val, OpM.sl] at *
  have HIN := Lib.hid (And.intro hin hlen)
  have HO := Lib.hid (fun W => nil_setAt W v i x)
  clear hin hlen hd' hn
  try simp only [V.val] at *
  go_enter Try.func26, Try.ntmps26
  go_wp2_with fail
  refine (HO.out _).mono ?_
  rintro e w1 ⟨rfl, hb1⟩
  have hx := boxAt hb1
  simp only [World.size_alloc] at hx
  obtain ⟨p0, p1, p2, p3, p4, p5⟩ := valBlk hx
  have hz := blockLt hx
  have hB : Below w.heap.size w w1 := by exact Below.next (by (repeat (first | exact Below.refl _ _ | assumption | refine Below.drewN ?_ _ | refine Below.drew ?_ | refine Below.alloc ?_ (by (try simp only [World.size_alloc, size_drewN, size_setCell]); omega) _ | refine Below.setCell ?_ (by (try simp only [World.size_alloc, size_drewN, size_setCell]); omega) _))) hb1 (by (try simp only [World.size_alloc, size_drew, size_drewN, size_setCell]); omega)
  go_wp2
  exact bodyPost_ret (v := .tuple #[.int .i64 0, .agg #[.int .i64 0, .int .i64 0, .string ⟨#[]⟩]]) (by simp [results, Try.results26, go_sem, p0, p1, p2]) rfl ⟨rfl, by (repeat (first | exact Below.refl _ _ | assumption | refine Below.drewN ?_ _ | refine Below.drew ?_ | refine Below.alloc ?_ (by (try simp only [World.size_alloc, size_drewN, size_setCell]); omega) _ | refine Below.setCell ?_ (by (try simp only [World.size_alloc, size_drewN, size_setCell]); omega) _))⟩
set_option maxRecDepth 100000 in
theorem nil_do4 (w : World) (o : OpM) (hd : o.d = 4) (hin : SeesV w o.sl o.l) (hlen : o.l.length ≤ 8796093022208) : Calls Try.prog 26 #[.pointer none, o.val] w (DoNil w) := by
  obtain ⟨d, kd, i, j, nm, n, v, k, x, a, l, cap, hd', _, _, _, hn, _⟩ := o
  simp only at hd
  subst hd
  simp only [OpM.val, OpM.sl] at *
  have HIN := Lib.hid (And.intro hin hlen)
  have HO := Lib.hid (fun W => nil_replace W v i j a l.length cap)
  clear hin hlen hd' hn
  try simp only [V.val] at *
  go_enter Try.func26, Try.ntmps26
  go_wp2_with fail
  refine (HO.out _).mono ?_
  rintro e w1 ⟨rfl, hb1⟩
  have hx := boxAt hb1
  simp only [World.size_alloc] at hx
  obtain ⟨p0, p1, p2, p3, p4, p5⟩ := valBlk hx
  have hz := blockLt hx
  have hB : Below w.heap.size w w1 := by exact Below.next (by (repeat (first | exact Below.refl _ _ | assumption | refine Below.drewN ?_ _ | refine Below.drew ?_ | refine Below.alloc ?_ (by (try simp only [World.size_alloc, size_drewN, size_setCell]); omega) _ | refine Below.setCell ?_ (by (try simp only [World.size_alloc, size_drewN, size_setCell]); omega) _))) hb1 (by (try simp only [World.size_alloc, size_drew, size_drewN, size_setCell]); omega)
  go_wp2
  exact bodyPost_ret (v := .tuple #[.int .i64 0, .agg #[.int .i64 0, .int .i64 0, .string ⟨#[]⟩]]) (by simp [results, Try.results26, go_sem, p0, p1, p2]) rfl ⟨rfl, by (repeat (first | exact Below.refl _ _ | assumption | refine Below.drewN ?_ _ | refine Below.drew ?_ | refine Below.alloc ?_ (by (try simp only [World.size_alloc, size_drewN, size_setCell]); omega) _ | refine Below.setCell ?_ (by (try simp only [World.size_alloc, size_drewN, size_setCell]); omega) _))⟩
set_option maxRecDepth 100000 in
theorem nil_do5 (w : World) (o : OpM) (hd : o.d = 5) (hin : SeesV w o.sl o.l) (hlen : o.l.length ≤ 8796093022208) : Calls Try.prog 26 #[.pointer none, o.val] w (DoNil w) := by
  obtain ⟨d, kd, i, j, nm, n, v, k, x, a, l, cap, hd', _, _, _, hn, _⟩ := o
  simp only at hd
  subst hd
  simp only [OpM.val, OpM.sl] at *
  have HIN := Lib.hid (And.intro hin hlen)
  have HO := Lib.hid (fun W => nil_put W v k x)
  clear hin hlen hd' hn
  try simp only [V.val] at *
  go_enter Try.func26, Try.ntmps26
  go_wp2_with fail
  refine (HO.out _).mono ?_
  rintro e w1 ⟨rfl, hb1⟩
  have hx := boxAt hb1
  simp only [World.size_alloc] at hx
  obtain ⟨p0, p1, p2, p3, p4, p5⟩ := valBlk hx
  have hz := blockLt hx
  have hB : Below w.heap.size w w1 := by exact Below.next (by (repeat (first | exact Below.refl _ _ | assumption | refine Below.drewN ?_ _ | refine Below.drew ?_ | refine Below.alloc ?_ (by (try simp only [World.size_alloc, size_drewN, size_setCell]); omega) _ | refine Below.setCell ?_ (by (try simp only [World.size_alloc, size_drewN, size_setCell]); omega) _))) hb1 (by (try simp only [World.size_alloc, size_drew, size_drewN, size_setCell]); omega)
  go_wp2
  exact bodyPost_ret (v := .tuple #[.int .i64 0, .agg #[.int .i64 0, .int .i64 0, .string ⟨#[]⟩]]) (by simp [results, Try.results26, go_sem, p0, p1, p2]) rfl ⟨rfl, by (repeat (first | exact Below.refl _ _ | assumption | refine Below.drewN ?_ _ | refine Below.drew ?_ | refine Below.alloc ?_ (by (try simp only [World.size_alloc, size_drewN, size_setCell]); omega) _ | refine Below.setCell ?_ (by (try simp only [World.size_alloc, size_drewN, size_setCell]); omega) _))⟩
set_option maxRecDepth 100000 in
theorem nil_do6 (w : World) (o : OpM) (hd : o.d = 6) (hin : SeesV w o.sl o.l) (hlen : o.l.length ≤ 8796093022208) : Calls Try.prog 26 #[.pointer none, o.val] w (DoNil w) := by
  obtain ⟨d, kd, i, j, nm, n, v, k, x, a, l, cap, hd', _, _, _, hn, _⟩ := o
  simp only at hd
  subst hd
  simp only [OpM.val, OpM.sl] at *
  have HIN := Lib.hid (And.intro hin hlen)
  have HO := Lib.hid (fun W => nil_del W v k)
  clear hin hlen hd' hn
  try simp only [V.val] at *
  go_enter Try.func26, Try.ntmps26
  go_wp2_with fail
  refine (HO.out _).mono ?_
  rintro e w1 ⟨rfl, hb1⟩
  have hx := boxAt hb1
  simp only [World.size_alloc] at hx
  obtain ⟨p0, p1, p2, p3, p4, p5⟩ := valBlk hx
  have hz := blockLt hx
  have hB : Below w.heap.size w w1 := by exact Below.next (by (repeat (first | exact Below.refl _ _ | assumption | refine Below.drewN ?_ _ | refine Below.drew ?_ | refine Below.alloc ?_ (by (try simp only [World.size_alloc, size_drewN, size_setCell]); omega) _ | refine Below.setCell ?_ (by (try simp only [World.size_alloc, size_drewN, size_setCell]); omega) _))) hb1 (by (try simp only [World.size_alloc, size_drew, size_drewN, size_setCell]); omega)
  go_wp2
  exact bodyPost_ret (v := .tuple #[.int .i64 0, .agg #[.int .i64 0, .int .i64 0, .string ⟨#[]⟩]]) (by simp [results, Try.results26, go_sem, p0, p1, p2]) rfl ⟨rfl, by (repeat (first | exact Below.refl _ _ | assumption | refine Below.drewN ?_ _ | refine Below.drew ?_ | refine Below.alloc ?_ (by (try simp only [World.size_alloc, size_drewN, size_setCell]); omega) _ | refine Below.setCell ?_ (by (try simp only [World.size_alloc, size_drewN, size_setCell]); omega) _))⟩
set_option maxRecDepth 100000 in
theorem nil_do7 (w : World) (o : OpM) (hd : o.d = 7) (hin : SeesV w o.sl o.l) (hlen : o.l.length ≤ 8796093022208) : Calls Try.prog 26 #[.pointer none, o.val] w (DoNil w) := by
  obtain ⟨d, kd, i, j, nm, n, v, k, x, a, l, cap, hd', _, _, _, hn, _⟩ := o
  simp only at hd
  subst hd
  simp only [OpM.val, OpM.sl] at *
  have HIN := Lib.hid (And.intro hin hlen)
  have HO := Lib.hid (fun W => nil_sweep W a l.length cap)
  clear hin hlen hd' hn
  try simp only [V.val] at *
  go_enter Try.func26, Try.ntmps26
  go_wp2_with fail
  refine (HO.out _).mono ?_
  rintro e w1 ⟨rfl, hb1⟩
  have hx := boxAt hb1
  simp only [World.size_alloc] at hx
  obtain ⟨p0, p1, p2, p3, p4, p5⟩ := valBlk hx
  have hz := blockLt hx
  have hB : Below w.heap.size w w1 := by exact Below.next (by (repeat (first | exact Below.refl _ _ | assumption | refine Below.drewN ?_ _ | refine Below.drew ?_ | refine Below.alloc ?_ (by (try simp only [World.size_alloc, size_drewN, size_setCell]); omega) _ | refine Below.setCell ?_ (by (try simp only [World.size_alloc, size_drewN, size_setCell]); omega) _))) hb1 (by (try simp only [World.size_alloc, size_drew, size_drewN, size_setCell]); omega)
  go_wp2
  exact bodyPost_ret (v := .tuple #[.int .i64 0, .agg #[.int .i64 0, .int .i64 0, .string ⟨#[]⟩]]) (by simp [results, Try.results26, go_sem, p0, p1, p2]) rfl ⟨rfl, by (repeat (first | exact Below.refl _ _ | assumption | refine Below.drewN ?_ _ | refine Below.drew ?_ | refine Below.alloc ?_ (by (try simp only [World.size_alloc, size_drewN, size_setCell]); omega) _ | refine Below.setCell ?_ (by (try simp only [World.size_alloc, size_drewN, size_setCell]); omega) _))⟩
set_option maxRecDepth 100000 in
theorem nil_do8 (w : World) (o : OpM) (hd : o.d = 8) (hin : SeesV w o.sl o.l) (hlen : o.l.length ≤ 8796093022208) : Calls Try.prog 26 #[.pointer none, o.val] w (DoNil w) := by
  obtain ⟨d, kd, i, j, nm, n, v, k, x, a, l, cap, hd', _, _, _, hn, _⟩ := o
  simp only at hd
  subst hd
  simp only [OpM.val, OpM.sl] at *
  have HIN := Lib.hid (And.intro hin hlen)
  clear hin hlen hd' hn
  try simp only [V.val] at *
  go_enter Try.func26, Try.ntmps26
  go_wp2_with fail
  refine (numbers_ok _ _ l (HIN.out.1.keep fun p u hp => cellBelow hp (by (repeat (first | exact Below.refl _ _ | assumption | refine Below.drewN ?_ _ | refine Below.drew ?_ | refine Below.alloc ?_ (by (try simp only [World.size_alloc, size_drewN, size_setCell]); omega) _ | refine Below.setCell ?_ (by (try simp only [World.size_alloc, size_drewN, size_setCell]); omega) _)))) HIN.out.2).mono ?_
  rintro e w1 ⟨rv, rfl, R⟩
  have hok : ∀ n ∈ l.map (·.n), okI n := fun n hn => by obtain ⟨x, _, rfl⟩ := List.mem_map.1 hn; exact x.hn
  generalize l.map (·.n) = ns at R hok
  obtain ⟨na, nc, rfl⟩ := R.1.form
  have hb1 := R.2.2
  have HF := Lib.hid (nil_free w1 _ _ (SeesN.of_slIs R.1) hok)
  clear R hok
  go_wp2_with fail
  refine HF.out.mono ?_
  rintro e w2 ⟨rfl, hb2⟩
  have hx := blockBelow (boxAt hb1) hb2
  simp only [World.size_alloc] at hx
  obtain ⟨p0, p1, p2, p3, p4, p5⟩ := valBlk hx
  have hz := blockLt hx
  have hB : Below w.heap.size w w2 := Below.next (by exact Below.next (by (repeat (first | exact Below.refl _ _ | assumption | refine Below.drewN ?_ _ | refine Below.drew ?_ | refine Below.alloc ?_ (by (try simp only [World.size_alloc, size_drewN, size_setCell]); omega) _ | refine Below.setCell ?_ (by (try simp only [World.size_alloc, size_drewN, size_setCell]); omega) _))) hb1 (by (try simp only [World.size_alloc, size_drew, size_drewN, size_setCell]); omega)) hb2 (by have := hb1.size; simp at this; omega)
  go_wp2
  exact bodyPost_ret (v := .tuple #[.int .i64 0, .agg #[.int .i64 0, .int .i64 0, .string ⟨#[]⟩]]) (by simp [results, Try.results26, go_sem, p0, p1, p2]) rfl ⟨rfl, by (repeat (first | exact Below.refl _ _ | assumption | refine Below.drewN ?_ _ | refine Below.drew ?_ | refine Below.alloc ?_ (by (try simp only [World.size_alloc, size_drewN, size_setCell]); omega) _ | refine Below.setCell ?_ (by (try simp only [World.size_alloc, size_drewN, size_setCell]); omega) _))⟩
set_option maxRecDepth 100000 in
theorem nil_do0 (w : World) (o : OpM) (hd : ¬ (1 ≤ o.d ∧ o.d ≤ 8)) : Calls Try.prog 26 #[.pointer none, o.val] w (DoNil w) := by
  obtain ⟨d, kd, i, j, nm, n, v, k, x, a, l, cap, hd', _, _, _, hn, _⟩ := o
  simp only at hd
  have e1 : (d == 1) = false := by simp; omega
  have e2 : (d == 2) = false := by simp; omega
  have e3 : (d == 3) = false := by simp; omega
  have e4 : (d == 4) = false := by simp; omega
  have e5 : (d == 5) = false := by simp; omega
  have e6 : (d == 6) = false := by simp; omega
  have e7 : (d == 7) = false := by simp; omega
  have e8 : (d == 8) = false := by simp; omega
  simp only [OpM.val] at *
  clear hd hd' hn
  go_enter Try.func26, Try.ntmps26
  go_wp2
  exact bodyPost_ret (v := .tuple #[.int .i64 0, .agg #[.int .i64 0, .int .i64 0, .string ⟨#[]⟩]]) (by simp [results, Try.results26, go_sem]) rfl ⟨rfl, by (repeat (first | exact Below.refl _ _ | assumption | refine Below.drewN ?_ _ | refine Below.drew ?_ | refine Below.alloc ?_ (by (try simp only [World.size_alloc, size_drewN, size_setCell]); omega) _ | refine Below.setCell ?_ (by (try simp only [World.size_alloc, size_drewN, size_setCell]); omega) _))⟩
theorem nil_do (w : World) (o : OpM) (hin : SeesV w o.sl o.l) (hlen : o.l.length ≤ 8796093022208) : Calls Try.prog 26 #[.pointer none, o.val] w (DoNil w) := by
  by_cases h0 : 1 ≤ o.d ∧ o.d ≤ 8
  · obtain h | h | h | h | h | h | h | h : o.d = 1 ∨ o.d = 2 ∨ o.d = 3 ∨ o.d = 4 ∨ o.d = 5 ∨ o.d = 6 ∨ o.d = 7 ∨ o.d = 8 := by omega
    · exact nil_do1 w o h hin hlen
    · exact nil_do2 w o h hin hlen
    · exact nil_do3 w o h hin hlen
    · exact nil_do4 w o h hin hlen
    · exact nil_do5 w o h hin hlen
    · exact nil_do6 w o h hin hlen
    · exact nil_do7 w o h hin hlen
    · exact nil_do8 w o h hin hlen
  · exact nil_do0 w o h0
end Go.Proofs.Ytoancpjlkhijiaa
