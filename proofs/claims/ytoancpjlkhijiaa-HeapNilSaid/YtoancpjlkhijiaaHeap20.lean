/- The heap: Free. -/
import Derived.Test.YtoancpjlkhijiaaHeap19
namespace Go.Proofs.Ytoancpjlkhijiaa
open Go.RowKit
set_option linter.unusedVariables false
/-- A slice lies in none of these blocks. -/
def notIn (F : List Nat) (sv : Value) : Prop := ∀ g o n c, sv = .slice (some ⟨g, o, none⟩) n c → 0 < n → g ∉ F
theorem SeesV.outside {w w' : World} {F : List Nat} {sv : Value} {l : List V} (h : SeesV w sv l) (hn : notIn F sv) (ho : Outside F w w') : SeesV w' sv l := by
  obtain ⟨a, cap, h1, h2, h3, h4⟩ := h
  refine ⟨a, cap, h1, h2, h3, ?_⟩
  rcases h4 with h4 | ⟨g, o, h5, h6⟩
  · exact .inl h4
  · refine .inr ⟨g, o, h5, fun i v hv => ?_⟩
    have hg : g ∉ F := hn g o l.length cap (by rw [h1, h5]) (by have := (List.getElem?_eq_some_iff.1 hv).1; omega)
    obtain ⟨k0, k1, k2⟩ := h6 i v hv
    exact ⟨ho.cell k0 hg, ho.cell k1 hg, ho.cell k2 hg⟩
/-- The slice sv shows just the numbers l. -/
def SeesN (w : World) (sv : Value) (l : List Int) : Prop :=
  ∃ a cap, sv = .slice a l.length cap ∧ l.length ≤ cap ∧ cap ≤ maxLen ∧ (l = [] ∨ ∃ g o, a = some ⟨g, o, none⟩ ∧ ∀ i n, l[i]? = some n → w.cell? ⟨g, o + i, none⟩ = some (.int .i64 n))
theorem SeesN.outside {w w' : World} {F : List Nat} {sv : Value} {l : List Int} (h : SeesN w sv l) (hn : notIn F sv) (ho : Outside F w w') : SeesN w' sv l := by
  obtain ⟨a, cap, h1, h2, h3, h4⟩ := h
  refine ⟨a, cap, h1, h2, h3, ?_⟩
  rcases h4 with h4 | ⟨g, o, h5, h6⟩
  · exact .inl h4
  · exact .inr ⟨g, o, h5, fun i v hv => ho.cell (h6 i v hv) (hn g o l.length cap (by rw [h1, h5]) (by have := (List.getElem?_eq_some_iff.1 hv).1; omega))⟩
def HeapM.freeAll (H : HeapM) (l : List Int) : HeapM := l.foldl HeapM.drop H
def HeapM.freed : HeapM → List Int → Nat
  | _, [] => 0
  | H, n :: l => (getL H.objs n).isSome.toNat + (H.drop n).freed l
theorem HeapM.freed_append (H : HeapM) (l : List Int) (n : Int) : H.freed (l ++ [n]) = H.freed l + (getL (H.freeAll l).objs n).isSome.toNat := by
  induction l generalizing H with
  | nil => simp [HeapM.freed, HeapM.freeAll]
  | cons m l ih => simp only [List.cons_append, HeapM.freed, ih (H.drop m)]; simp only [HeapM.freeAll, List.foldl_cons]; omega
theorem HeapM.freed_le (H : HeapM) (l : List Int) : H.freed l ≤ l.length := by
  induction l generalizing H with
  | nil => simp [HeapM.freed]
  | cons m l ih => have := ih (H.drop m); simp only [HeapM.freed, List.length_cons]; cases (getL H.objs m).isSome <;> simp <;> omega
theorem HeapM.drop_none {H : HeapM} {n : Int} (h : getL H.objs n = none) : H.drop n = H := by unfold HeapM.drop; rw [delL_none h]
def HeapM.Fits (H : HeapM) : Prop := ∀ p ∈ H.objs, p.2.items.length ≤ 4194304
structure HeapM.Fine (H : HeapM) : Prop where
  nk : (H.objs.map (·.1)).Nodup
  fits : H.Fits
theorem HeapM.Fine.drop {H : HeapM} (h : H.Fine) (n : Int) : (H.drop n).Fine := ⟨nodup_delL h.nk n, fun p hp => h.fits p (List.mem_filter.1 hp).1⟩
theorem HeapM.Fine.freeAll {H : HeapM} (h : H.Fine) (l : List Int) : (H.freeAll l).Fine := by
  induction l generalizing H with
  | nil => exact h
  | cons n l ih => exact ih (h.drop n)
def FreePost (h : Nat) (H : HeapM) (ε : Int → Int) (F : List Nat) (w : World) (ns : List Int) (e : Ending) (w' : World) : Prop :=
  e = .returned (.int .i64 (H.freed ns)) ∧ ∃ F', HeapIs w' h (H.freeAll ns) ε F' ∧ (∀ x ∈ F', x ∈ F) ∧ Outside F w w'
def FreeRel (h : Nat) (H : HeapM) (ε : Int → Int) (F : List Nat) (w : World) (ns : List Int) (k : Nat) (wr : World) : Prop :=
  ∃ F', HeapIs wr h (H.freeAll (ns.take k)) ε F' ∧ (∀ x ∈ F', x ∈ F) ∧ Outside F w wr
set_option maxRecDepth 100000 in
set_option maxHeartbeats 800000 in
theorem heap_free (w : World) (h : Nat) (sv : Value) (ns : List Int) {H : HeapM} {ε : Int → Int} {F : List Nat} (hh : HeapIs w h H ε F) (hfine : H.Fine) (hs : SeesN w sv ns) (hni : notIn F sv) (hok : ∀ n ∈ ns, okI n) :
    Calls Try.prog 35 #[.pointer (some ⟨h, 0, none⟩), sv] w (FreePost h H ε F w ns) := by
  have HS := Lib.hid hs
  obtain ⟨sa, scap, rfl, q1, q2, q3⟩ := hs
  have hbig : (ns.length : Int) ≤ 9223372036854775807 := by unfold maxLen at q2; omega
  have HN := Lib.hid hni
  have HK := Lib.hid hok
  have HF := Lib.hid hfine
  have HH := Lib.hid hh
  clear hh q1 q2 q3 hni hok hfine
  go_enter Try.func35, Try.ntmps35
  go_wp2
  go_loopw [5, 10] (fun t i wr => ∃ k : Nat, k ≤ ns.length ∧ i = .int .i64 k ∧ t = .int .i64 (H.freed (ns.take k)) ∧ FreeRel h H ε F w ns k wr) (fun _ i _ => ns.length - (intOf i).toNat)
  case atStart => exact ⟨0, by omega, rfl, rfl, F, HH.out, fun x hx => hx, Outside.refl _ _⟩
  case round =>
    obtain ⟨k, hk, rfl, rfl, F', d1, d2, d3⟩ := hrel
    by_cases hlt : k < ns.length
    · obtain ⟨n, hn⟩ : ∃ n, ns[k]? = some n := ⟨ns[k], by simp [hlt]⟩
      have hokn : okI n := HK.out n (List.mem_of_getElem? hn)
      obtain ⟨g, o, rfl, hc⟩ : ∃ g o, sa = some ⟨g, o, none⟩ ∧ ∀ i n, ns[i]? = some n → wr.cell? ⟨g, o + i, none⟩ = some (.int .i64 n) := by
        obtain ⟨a, cap, h1, h2, h3, h4⟩ := HS.out.outside HN.out d3
        have e := (Value.slice.inj h1).1
        subst e
        rcases h4 with h4 | ⟨g, o, h5, h6⟩
        · subst h4; simp at hlt
        · exact ⟨g, o, h5, h6⟩
      have hcell := hc k n hn
      have hil : (k : Int) < ns.length := by omega
      have htk : ns.take (k + 1) = ns.take k ++ [n] := by rw [List.take_add_one, hn]; rfl
      have hfa : H.freeAll (ns.take (k + 1)) = (H.freeAll (ns.take k)).drop n := by rw [htk, HeapM.freeAll, List.foldl_append]; rfl
      have hfr : H.freed (ns.take (k + 1)) = H.freed (ns.take k) + (getL (H.freeAll (ns.take k)).objs n).isSome.toNat := by rw [htk, HeapM.freed_append]
      have hfl : (H.freed (ns.take k) : Int) ≤ k := by
        have := H.freed_le (ns.take k); rw [List.length_take] at this; omega
      have hfine := HF.out.freeAll (ns.take k)
      have HFA := Lib.hid (And.intro hfa hfr)
      clear hfa hfr htk hc hn
      obtain ⟨p, hp, hof⟩ := d1.of_any (V.ref n hokn)
      have hof1 := hof wr (Below.refl _ _)
      have hpo : (HeapM.of (H.freeAll (ns.take k)) (V.ref n hokn)) = getL (H.freeAll (ns.take k)).objs n := by simp [HeapM.of, V.ref]
      rw [hpo] at hp
      simp only [V.val, V.ref] at hof1
      have HOF := Lib.hid hof1
      clear hof hof1 hpo
      generalize H.freeAll (ns.take k) = Hk at *
      cases p with
      | none =>
        have hno : getL Hk.objs n = none := by simpa using hp.symm
        have HNO := Lib.hid hno
        have HD := Lib.hid (And.intro d1 (And.intro d2 d3))
        clear hp hno d1 d2 d3
        go_wp2_with fail
        refine HOF.out.mono ?_
        rintro e w1 ⟨rfl, hb1⟩
        go_wp2
        obtain ⟨d1, d2, d3⟩ := HD.out
        refine ⟨⟨k + 1, by omega, by go_num, ?_, F', ?_, d2, d3.trans (Outside.of_below hb1 F) (Grow.refl _ _)⟩, by simp [intOf]; omega⟩
        · rw [HFA.out.2, HNO.out]; simp
        · rw [HFA.out.1, HeapM.drop_none HNO.out]; exact d1.below hb1
      | some a =>
        obtain ⟨oo, hoo⟩ := Option.isSome_iff_exists.1 hp.symm
        have HNO := Lib.hid hoo
        have HDR := Lib.hid (fun W (hW : Below wr.heap.size wr W) => heap_drop W h n hokn (d1.below hW) hoo hfine.nk (hfine.fits (n, oo) (getL_mem hoo)))
        have HD := Lib.hid (And.intro d1 (And.intro d2 d3))
        clear hp hoo d1 d2 d3 hfine
        go_wp2_with fail
        refine HOF.out.mono ?_
        rintro e w1 ⟨rfl, hb1⟩
        go_wp2_with fail
        refine (HDR.out _ hb1).mono ?_
        rintro e w2 ⟨sv2, rfl, s1, s2, F2, s3, s4, s5⟩
        have HS5 := Lib.hid (And.intro s3 (And.intro s4 s5))
        clear s1 s2 s3 s4 s5
        go_wp2
        obtain ⟨d1, d2, d3⟩ := HD.out
        obtain ⟨s3, s4, s5⟩ := HS5.out
        refine ⟨⟨k + 1, by omega, by go_num, ?_, F2, ?_, fun x hx => d2 x (s4 x hx), ?_⟩, by simp [intOf]; omega⟩
        · rw [HFA.out.2, HNO.out]; simp
        · rw [HFA.out.1]; exact s3
        · exact (d3.trans (Outside.of_below hb1 F) (Grow.refl _ _)).trans (s5.mono d2) (Grow.refl _ _)
    · have : k = ns.length := by omega
      subst this
      have HD := Lib.hid (And.intro d1 (And.intro d2 d3))
      clear d1 d2 d3
      go_wp2
      go_ret
      unfold FreePost
      have := HD.out
      rw [List.take_length] at this ⊢
      exact ⟨rfl, F', this⟩
end Go.Proofs.Ytoancpjlkhijiaa
