/- A nil heap: the law's do. -/
import Derived.Test.YtoancpjlkhijiaaNil
namespace Go.Proofs.Ytoancpjlkhijiaa
open Go.RowKit
set_option linter.unusedVariables false
def DoNil (w : World) (e : Ending) (w' : World) : Prop := e = .returned (.tuple #[.int .i64 0, V.zero.val]) ∧ Below w.heap.size w w'
set_option maxRecDepth 100000 in
theorem nil_do1 (w : World) (o : OpM) (hd : o.d = 1) (hin : SeesV w o.sl o.l) (hlen : o.l.length ≤ 8796093022208) : Calls Try.prog 26 #[.pointer none, o.val] w (DoNil w) := by
  obtain ⟨d, kd, i, j, nm, n, v, k, x, a, l, cap, hd', _, _, _, hn, _⟩ := o
  simp only at hd
  subst hd
  simp only [OpM.val, OpM.sl] at *
  have HIN := Lib.hid (And.intro hin hlen)
  have HO := Lib.hid (fun W => nil_make W kd n nm a l.length cap)
  clear hin hlen hd' hn
  try simp only [V.val] at *
  go_enter Try.func26, Try.ntmps26
  go_wp2_with fail
  refine (HO.out _).mono ?_
  rintro e w1 ⟨rfl, hb1⟩
  have hx := boxAt hb1
  simp only [World.size_alloc] at hx
  obtain ⟨p0, p1, p2, p3, p4, p5⟩ := valBlk hx
  have hz := blockLt hx
  have hB : Below w.heap.size w w1 := by below_by hb1
  go_wp2
  exact bodyPost_ret (v := .tuple #[.int .i64 0, .agg #[.int .i64 0, .int .i64 0, .string ⟨#[]⟩]]) (by simp [results, Try.results26, go_sem, p0, p1, p2, V.zero]) rfl ⟨rfl, by below_tac⟩
set_option maxRecDepth 100000 in
theorem nil_do2 (w : World) (o : OpM) (hd : o.d = 2) (hin : SeesV w o.sl o.l) (hlen : o.l.length ≤ 8796093022208) : Calls Try.prog 26 #[.pointer none, o.val] w (DoNil w) := by
  obtain ⟨d, kd, i, j, nm, n, v, k, x, a, l, cap, hd', _, _, _, hn, _⟩ := o
  simp only at hd
  subst hd
  simp only [OpM.val, OpM.sl] at *
  have HIN := Lib.hid (And.intro hin hlen)
  have HO := Lib.hid (fun W => nil_setNum W v n)
  clear hin hlen hd' hn
  try simp only [V.val] at *
  go_enter Try.func26, Try.ntmps26
  go_wp2_with fail
  refine (HO.out _).mono ?_
  rintro e w1 ⟨rfl, hb1⟩
  have hx := boxAt hb1
  simp only [World.size_alloc] at hx
  obtain ⟨p0, p1, p2, p3, p4, p5⟩ := valBlk hx
  have hz := blockLt hx
  have hB : Below w.heap.size w w1 := by below_by hb1
  go_wp2
  exact bodyPost_ret (v := .tuple #[.int .i64 0, .agg #[.int .i64 0, .int .i64 0, .string ⟨#[]⟩]]) (by simp [results, Try.results26, go_sem, p0, p1, p2]) rfl ⟨rfl, by below_tac⟩
set_option maxRecDepth 100000 in
theorem nil_do3 (w : World) (o : OpM) (hd : o.d = 3) (hin : SeesV w o.sl o.l) (hlen : o.l.length ≤ 8796093022208) : Calls Try.prog 26 #[.pointer none, o.val] w (DoNil w) := by
  obtain ⟨d, kd, i, j, nm, n, v, k, x, a, l, cap, hd', _, _, _, hn, _⟩ := o
  simp only at hd
  subst hd
  simp only [OpM.val, OpM.sl] at *
  have HIN := Lib.hid (And.intro hin hlen)
  have HO := Lib.hid (fun W => nil_setAt W v i x)
  clear hin hlen hd' hn
  try simp only [V.val] at *
  go_enter Try.func26, Try.ntmps26
  go_wp2_with fail
  refine (HO.out _).mono ?_
  rintro e w1 ⟨rfl, hb1⟩
  have hx := boxAt hb1
  simp only [World.size_alloc] at hx
  obtain ⟨p0, p1, p2, p3, p4, p5⟩ := valBlk hx
  have hz := blockLt hx
  have hB : Below w.heap.size w w1 := by below_by hb1
  go_wp2
  exact bodyPost_ret (v := .tuple #[.int .i64 0, .agg #[.int .i64 0, .int .i64 0, .string ⟨#[]⟩]]) (by simp [results, Try.results26, go_sem, p0, p1, p2]) rfl ⟨rfl, by below_tac⟩
set_option maxRecDepth 100000 in
theorem nil_do4 (w : World) (o : OpM) (hd : o.d = 4) (hin : SeesV w o.sl o.l) (hlen : o.l.length ≤ 8796093022208) : Calls Try.prog 26 #[.pointer none, o.val] w (DoNil w) := by
  obtain ⟨d, kd, i, j, nm, n, v, k, x, a, l, cap, hd', _, _, _, hn, _⟩ := o
  simp only at hd
  subst hd
  simp only [OpM.val, OpM.sl] at *
  have HIN := Lib.hid (And.intro hin hlen)
  have HO := Lib.hid (fun W => nil_replace W v i j a l.length cap)
  clear hin hlen hd' hn
  try simp only [V.val] at *
  go_enter Try.func26, Try.ntmps26
  go_wp2_with fail
  refine (HO.out _).mono ?_
  rintro e w1 ⟨rfl, hb1⟩
  have hx := boxAt hb1
  simp only [World.size_alloc] at hx
  obtain ⟨p0, p1, p2, p3, p4, p5⟩ := valBlk hx
  have hz := blockLt hx
  have hB : Below w.heap.size w w1 := by below_by hb1
  go_wp2
  exact bodyPost_ret (v := .tuple #[.int .i64 0, .agg #[.int .i64 0, .int .i64 0, .string ⟨#[]⟩]]) (by simp [results, Try.results26, go_sem, p0, p1, p2]) rfl ⟨rfl, by below_tac⟩
set_option maxRecDepth 100000 in
theorem nil_do5 (w : World) (o : OpM) (hd : o.d = 5) (hin : SeesV w o.sl o.l) (hlen : o.l.length ≤ 8796093022208) : Calls Try.prog 26 #[.pointer none, o.val] w (DoNil w) := by
  obtain ⟨d, kd, i, j, nm, n, v, k, x, a, l, cap, hd', _, _, _, hn, _⟩ := o
  simp only at hd
  subst hd
  simp only [OpM.val, OpM.sl] at *
  have HIN := Lib.hid (And.intro hin hlen)
  have HO := Lib.hid (fun W => nil_put W v k x)
  clear hin hlen hd' hn
  try simp only [V.val] at *
  go_enter Try.func26, Try.ntmps26
  go_wp2_with fail
  refine (HO.out _).mono ?_
  rintro e w1 ⟨rfl, hb1⟩
  have hx := boxAt hb1
  simp only [World.size_alloc] at hx
  obtain ⟨p0, p1, p2, p3, p4, p5⟩ := valBlk hx
  have hz := blockLt hx
  have hB : Below w.heap.size w w1 := by below_by hb1
  go_wp2
  exact bodyPost_ret (v := .tuple #[.int .i64 0, .agg #[.int .i64 0, .int .i64 0, .string ⟨#[]⟩]]) (by simp [results, Try.results26, go_sem, p0, p1, p2]) rfl ⟨rfl, by below_tac⟩
set_option maxRecDepth 100000 in
theorem nil_do6 (w : World) (o : OpM) (hd : o.d = 6) (hin : SeesV w o.sl o.l) (hlen : o.l.length ≤ 8796093022208) : Calls Try.prog 26 #[.pointer none, o.val] w (DoNil w) := by
  obtain ⟨d, kd, i, j, nm, n, v, k, x, a, l, cap, hd', _, _, _, hn, _⟩ := o
  simp only at hd
  subst hd
  simp only [OpM.val, OpM.sl] at *
  have HIN := Lib.hid (And.intro hin hlen)
  have HO := Lib.hid (fun W => nil_del W v k)
  clear hin hlen hd' hn
  try simp only [V.val] at *
  go_enter Try.func26, Try.ntmps26
  go_wp2_with fail
  refine (HO.out _).mono ?_
  rintro e w1 ⟨rfl, hb1⟩
  have hx := boxAt hb1
  simp only [World.size_alloc] at hx
  obtain ⟨p0, p1, p2, p3, p4, p5⟩ := valBlk hx
  have hz := blockLt hx
  have hB : Below w.heap.size w w1 := by below_by hb1
  go_wp2
  exact bodyPost_ret (v := .tuple #[.int .i64 0, .agg #[.int .i64 0, .int .i64 0, .string ⟨#[]⟩]]) (by simp [results, Try.results26, go_sem, p0, p1, p2]) rfl ⟨rfl, by below_tac⟩
set_option maxRecDepth 100000 in
theorem nil_do7 (w : World) (o : OpM) (hd : o.d = 7) (hin : SeesV w o.sl o.l) (hlen : o.l.length ≤ 8796093022208) : Calls Try.prog 26 #[.pointer none, o.val] w (DoNil w) := by
  obtain ⟨d, kd, i, j, nm, n, v, k, x, a, l, cap, hd', _, _, _, hn, _⟩ := o
  simp only at hd
  subst hd
  simp only [OpM.val, OpM.sl] at *
  have HIN := Lib.hid (And.intro hin hlen)
  have HO := Lib.hid (fun W => nil_sweep W a l.length cap)
  clear hin hlen hd' hn
  try simp only [V.val] at *
  go_enter Try.func26, Try.ntmps26
  go_wp2_with fail
  refine (HO.out _).mono ?_
  rintro e w1 ⟨rfl, hb1⟩
  have hx := boxAt hb1
  simp only [World.size_alloc] at hx
  obtain ⟨p0, p1, p2, p3, p4, p5⟩ := valBlk hx
  have hz := blockLt hx
  have hB : Below w.heap.size w w1 := by below_by hb1
  go_wp2
  exact bodyPost_ret (v := .tuple #[.int .i64 0, .agg #[.int .i64 0, .int .i64 0, .string ⟨#[]⟩]]) (by simp [results, Try.results26, go_sem, p0, p1, p2]) rfl ⟨rfl, by below_tac⟩
set_option maxRecDepth 100000 in
theorem nil_do8 (w : World) (o : OpM) (hd : o.d = 8) (hin : SeesV w o.sl o.l) (hlen : o.l.length ≤ 8796093022208) : Calls Try.prog 26 #[.pointer none, o.val] w (DoNil w) := by
  obtain ⟨d, kd, i, j, nm, n, v, k, x, a, l, cap, hd', _, _, _, hn, _⟩ := o
  simp only at hd
  subst hd
  simp only [OpM.val, OpM.sl] at *
  have HIN := Lib.hid (And.intro hin hlen)
  clear hin hlen hd' hn
  try simp only [V.val] at *
  go_enter Try.func26, Try.ntmps26
  go_wp2_with fail
  refine (numbers_ok _ _ l (HIN.out.1.keep fun p u hp => cellBelow hp (by below_tac)) HIN.out.2).mono ?_
  rintro e w1 ⟨rv, rfl, R⟩
  have hok : ∀ n ∈ l.map (·.n), okI n := fun n hn => by obtain ⟨x, _, rfl⟩ := List.mem_map.1 hn; exact x.hn
  generalize l.map (·.n) = ns at R hok
  obtain ⟨na, nc, rfl⟩ := R.1.form
  have hb1 := R.2.2
  have HF := Lib.hid (nil_free w1 _ _ (SeesN.of_slIs R.1) hok)
  clear R hok
  go_wp2_with fail
  refine HF.out.mono ?_
  rintro e w2 ⟨rfl, hb2⟩
  have hx := blockBelow (boxAt hb1) hb2
  simp only [World.size_alloc] at hx
  obtain ⟨p0, p1, p2, p3, p4, p5⟩ := valBlk hx
  have hz := blockLt hx
  have hB : Below w.heap.size w w2 := Below.next (by below_by hb1) hb2 (by have := hb1.size; simp at this; omega)
  go_wp2
  exact bodyPost_ret (v := .tuple #[.int .i64 0, .agg #[.int .i64 0, .int .i64 0, .string ⟨#[]⟩]]) (by simp [results, Try.results26, go_sem, p0, p1, p2]) rfl ⟨rfl, by below_tac⟩
set_option maxRecDepth 100000 in
theorem nil_do0 (w : World) (o : OpM) (hd : ¬ (1 ≤ o.d ∧ o.d ≤ 8)) : Calls Try.prog 26 #[.pointer none, o.val] w (DoNil w) := by
  obtain ⟨d, kd, i, j, nm, n, v, k, x, a, l, cap, hd', _, _, _, hn, _⟩ := o
  simp only at hd
  have e1 : (d == 1) = false := by simp; omega
  have e2 : (d == 2) = false := by simp; omega
  have e3 : (d == 3) = false := by simp; omega
  have e4 : (d == 4) = false := by simp; omega
  have e5 : (d == 5) = false := by simp; omega
  have e6 : (d == 6) = false := by simp; omega
  have e7 : (d == 7) = false := by simp; omega
  have e8 : (d == 8) = false := by simp; omega
  simp only [OpM.val] at *
  clear hd hd' hn
  go_enter Try.func26, Try.ntmps26
  go_wp2
  exact bodyPost_ret (v := .tuple #[.int .i64 0, .agg #[.int .i64 0, .int .i64 0, .string ⟨#[]⟩]]) (by simp [results, Try.results26, go_sem]) rfl ⟨rfl, by below_tac⟩
theorem nil_do (w : World) (o : OpM) (hin : SeesV w o.sl o.l) (hlen : o.l.length ≤ 8796093022208) : Calls Try.prog 26 #[.pointer none, o.val] w (DoNil w) := by
  by_cases h0 : 1 ≤ o.d ∧ o.d ≤ 8
  · obtain h | h | h | h | h | h | h | h : o.d = 1 ∨ o.d = 2 ∨ o.d = 3 ∨ o.d = 4 ∨ o.d = 5 ∨ o.d = 6 ∨ o.d = 7 ∨ o.d = 8 := by omega
    · exact nil_do1 w o h hin hlen
    · exact nil_do2 w o h hin hlen
    · exact nil_do3 w o h hin hlen
    · exact nil_do4 w o h hin hlen
    · exact nil_do5 w o h hin hlen
    · exact nil_do6 w o h hin hlen
    · exact nil_do7 w o h hin hlen
    · exact nil_do8 w o h hin hlen
  · exact nil_do0 w o h0
end Go.Proofs.Ytoancpjlkhijiaa
