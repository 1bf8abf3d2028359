import Derived.Test.YtobcnffjfclolaaDoorHeapD
import Derived.Deep.LoopGhost
/- The heap: drop, Free. -/
namespace Go.Proofs.YtobcnffjfclolaaDoor
set_option linter.unusedSimpArgs false
open Go.RowKit
set_option linter.unusedVariables false
def DropPost (h : Nat) (H : HeapM) (ε : Int → Int) (F : List Nat) (w : World) (n : Int) (o : ObjM) (e : Ending) (w' : World) : Prop :=
  ∃ sv, e = .returned sv ∧ slIs w' 31 3 V.cells sv o.vals ∧ (∀ b, sv.ownBlock = some b → w.heap.size ≤ b) ∧ ∃ F', HeapIs w' h (H.drop n) ε F' ∧ (∀ x ∈ F', x ∈ F) ∧ Outside F w w'
set_option maxRecDepth 100000 in
set_option maxHeartbeats 800000 in
theorem heap_drop (w : World) (h : Nat) (n : Int) (hn : okI n) {H : HeapM} {ε : Int → Int} {F : List Nat} {o : ObjM} (hh : HeapIs w h H ε F) (g : getL H.objs n = some o) (nk : (H.objs.map (·.1)).Nodup) (hlen : o.items.length ≤ 4194304) :
    Calls Tryd.prog 62 #[.pointer (some ⟨h, 0, none⟩), .int .i64 n] w (DropPost h H ε F w n o) := by
  obtain ⟨ma, mr, b, d, rv, G, obs, r, D⟩ := hh.dropAt g
  have DD := Lib.hid D
  obtain ⟨kl, hkl⟩ := keyOfI hn
  have HKL := Lib.hid hkl
  have hz : ∀ W, (zeroValue 76).run Tryd.prog W = .ok (.pointer none) W := fun W => Tryd.zeroValue76 W
  have hlk : (Instr.lookup 68 (.map (some ma)) (.int .i64 n) false).run Tryd.prog w = .ok (.pointer (some ⟨b, 0, none⟩)) w := by
    have := D.hm.look ekI_inj keyI Tryd.underlying68 (hz _) hkl false
    rw [D.hb] at this; exact this
  have c0 := cellAt D.hd 0 (v := .map (some ma)) rfl
  have c1 := cellAt D.hd 1 (v := .map (some mr)) rfl
  have HV := Lib.hid (heap_values w b d rv G o D.ho D.hi D.hdict hlen)
  have HG := Lib.hid (And.intro g nk)
  clear D hz hkl hlen g nk
  go_enter Tryd.func62, Tryd.ntmps62
  go_wp2_with fail
  refine HV.out.mono ?_
  rintro e w2 ⟨sv, rfl, s1, s2, s3⟩
  have C1 := cellBelow c1 s3
  have hm2 := DD.out.hr.of_block (s3.block mr DD.out.hr.lt)
  obtain ⟨sa, scap, rfl⟩ := s1.form
  go_wp2_with fail
  refine (heap_hold w2 h mr (-1) _ o.vals r C1 hm2 s1.sees').mono ?_
  rintro e w3 ⟨⟨_, rfl⟩, hm3, ho3⟩
  have hO3 : Outside [mr] w w3 := (Outside.of_below s3 _).trans ho3 (Grow.refl _ _)
  have hma3 : mapIs w3 Tryd.prog 2 ekI exP ma obs := DD.out.hm.of_block (hO3.block ma DD.out.hm.lt (by simpa using DD.out.ne.2.2))
  have C0 : w3.cell? ⟨h, 0, none⟩ = some (.map (some ma)) := hO3.cell c0 (by simpa using DD.out.ne.2.1)
  have hs3 : slIs w3 31 3 V.cells (.slice sa o.vals.length scap) o.vals := s1.of_block fun g hg => ho3.block g (s1.lt g hg) (by
    have := s2 g hg
    have := DD.out.hr.lt
    simp only [List.mem_singleton]; omega)
  have HI := Lib.hid (And.intro hm3 (And.intro hO3 (And.intro hs3 s2)))
  have HMA := Lib.hid hma3
  clear c0 c1 C1 hm2 hm3 ho3 hO3 hma3 hs3 s1 s2 s3 hlk
  go_wp2_with (at_delete; refine wpList_delete_is rfl _ _ 68 rfl 76 ekI_inj keyI Tryd.underlying68 rfl HMA.out (k := n) rfl HKL.out ?_; intro w4 r1 r2)
  go_ret
  obtain ⟨hm3, hO3, hs3, s2⟩ := HI.out
  have hO4 : Outside [ma, mr] w w4 := (hO3.mono (by simp)).grown r2.2 (fun b hb => by cases hb; exact .inl (by simp))
  have h4 : ∀ k, k < w3.heap.size → k ≠ ma → w4.heap[k]? = w3.heap[k]? := fun k hk hne => r2.2.block k hk (by simpa using hne)
  refine ⟨_, rfl, ?_, s2, ?_⟩
  · refine hs3.of_block fun g hg => h4 g (hs3.lt g hg) ?_
    have := s2 g hg
    have := DD.out.hm.lt
    omega
  · refine DD.out.shut w4 _ ε r1 (hm3.of_block (h4 mr hm3.lt (fun e => DD.out.ne.2.2 e.symm))) (fun m => ?_) hO4
    rw [cntL_holdL (-1) o.vals DD.out.hc m]
    congr 1
    have := cnt_delObj HG.out.2 HG.out.1 m
    show _ = cnt (allVals (delL H.objs n)) m + ε m
    omega
end Go.Proofs.YtobcnffjfclolaaDoor
/- The heap: Free. -/
namespace Go.Proofs.YtobcnffjfclolaaDoor
set_option linter.unusedSimpArgs false
open Go.RowKit
set_option linter.unusedVariables false
/-- A slice lies in none of these blocks. -/
def notIn (F : List Nat) (sv : Value) : Prop := ∀ g o n c, sv = .slice (some ⟨g, o, none⟩) n c → 0 < n → g ∉ F
/-- The slice sv shows just the numbers l. -/
def SeesN (w : World) (sv : Value) (l : List Int) : Prop :=
  ∃ a cap, sv = .slice a l.length cap ∧ l.length ≤ cap ∧ cap ≤ maxLen ∧ (l = [] ∨ ∃ g o, a = some ⟨g, o, none⟩ ∧ ∀ i n, l[i]? = some n → w.cell? ⟨g, o + i, none⟩ = some (.int .i64 n))
theorem SeesN.outside {w w' : World} {F : List Nat} {sv : Value} {l : List Int} (h : SeesN w sv l) (hn : notIn F sv) (ho : Outside F w w') : SeesN w' sv l := by
  obtain ⟨a, cap, h1, h2, h3, h4⟩ := h
  refine ⟨a, cap, h1, h2, h3, ?_⟩
  rcases h4 with h4 | ⟨g, o, h5, h6⟩
  · exact .inl h4
  · exact .inr ⟨g, o, h5, fun i v hv => ho.cell (h6 i v hv) (hn g o l.length cap (by rw [h1, h5]) (by have := (List.getElem?_eq_some_iff.1 hv).1; omega))⟩
def HeapM.freeAll (H : HeapM) (l : List Int) : HeapM := l.foldl HeapM.drop H
def HeapM.freed : HeapM → List Int → Nat
  | _, [] => 0
  | H, n :: l => (getL H.objs n).isSome.toNat + (H.drop n).freed l
theorem HeapM.freed_append (H : HeapM) (l : List Int) (n : Int) : H.freed (l ++ [n]) = H.freed l + (getL (H.freeAll l).objs n).isSome.toNat := by
  induction l generalizing H with
  | nil => simp [HeapM.freed, HeapM.freeAll]
  | cons m l ih => simp only [List.cons_append, HeapM.freed, ih (H.drop m)]; simp only [HeapM.freeAll, List.foldl_cons]; omega
theorem HeapM.freed_le (H : HeapM) (l : List Int) : H.freed l ≤ l.length := by
  induction l generalizing H with
  | nil => simp [HeapM.freed]
  | cons m l ih => have := ih (H.drop m); simp only [HeapM.freed, List.length_cons]; cases (getL H.objs m).isSome <;> simp <;> omega
theorem HeapM.drop_none {H : HeapM} {n : Int} (h : getL H.objs n = none) : H.drop n = H := by unfold HeapM.drop; rw [delL_none h]
def HeapM.Fits (H : HeapM) : Prop := ∀ p ∈ H.objs, p.2.items.length ≤ 4194304
structure HeapM.Fine (H : HeapM) : Prop where
  nk : (H.objs.map (·.1)).Nodup
  fits : H.Fits
theorem HeapM.Fine.drop {H : HeapM} (h : H.Fine) (n : Int) : (H.drop n).Fine := ⟨nodup_delL h.nk n, fun p hp => h.fits p (List.mem_filter.1 hp).1⟩
theorem HeapM.Fine.freeAll {H : HeapM} (h : H.Fine) (l : List Int) : (H.freeAll l).Fine := by
  induction l generalizing H with
  | nil => exact h
  | cons n l ih => exact ih (h.drop n)
def FreePost (h : Nat) (H : HeapM) (ε : Int → Int) (F : List Nat) (w : World) (ns : List Int) (e : Ending) (w' : World) : Prop :=
  e = .returned (.int .i64 (H.freed ns)) ∧ ∃ F', HeapIs w' h (H.freeAll ns) ε F' ∧ (∀ x ∈ F', x ∈ F) ∧ Outside F w w'
def FreeRel (h : Nat) (H : HeapM) (ε : Int → Int) (F : List Nat) (w : World) (ns : List Int) (k : Nat) (wr : World) : Prop :=
  ∃ F', HeapIs wr h (H.freeAll (ns.take k)) ε F' ∧ (∀ x ∈ F', x ∈ F) ∧ Outside F w wr
set_option maxRecDepth 100000 in
set_option maxHeartbeats 800000 in
theorem heap_free (w : World) (h : Nat) (sv : Value) (ns : List Int) {H : HeapM} {ε : Int → Int} {F : List Nat} (hh : HeapIs w h H ε F) (hfine : H.Fine) (hs : SeesN w sv ns) (hni : notIn F sv) (hok : ∀ n ∈ ns, okI n) :
    Calls Tryd.prog 39 #[.pointer (some ⟨h, 0, none⟩), sv] w (FreePost h H ε F w ns) := by
  have HS := Lib.hid hs
  obtain ⟨sa, scap, rfl, q1, q2, q3⟩ := hs
  have hbig : (ns.length : Int) ≤ 9223372036854775807 := by unfold maxLen at q2; omega
  have HN := Lib.hid hni
  have HK := Lib.hid hok
  have HF := Lib.hid hfine
  have HH := Lib.hid hh
  clear hh q1 q2 q3 hni hok hfine
  go_enter Tryd.func39, Tryd.ntmps39
  go_wp2
  go_loopw [5, 10] (fun t i wr => ∃ k : Nat, k ≤ ns.length ∧ i = .int .i64 k ∧ t = .int .i64 (H.freed (ns.take k)) ∧ FreeRel h H ε F w ns k wr) (fun _ i _ => ns.length - (intOf i).toNat)
  case atStart => exact ⟨0, by omega, rfl, rfl, F, HH.out, fun x hx => hx, Outside.refl _ _⟩
  case round =>
    obtain ⟨k, hk, rfl, rfl, F', d1, d2, d3⟩ := hrel
    by_cases hlt : k < ns.length
    · obtain ⟨n, hn⟩ : ∃ n, ns[k]? = some n := ⟨ns[k], by simp [hlt]⟩
      have hokn : okI n := HK.out n (List.mem_of_getElem? hn)
      obtain ⟨g, o, rfl, hc⟩ : ∃ g o, sa = some ⟨g, o, none⟩ ∧ ∀ i n, ns[i]? = some n → wr.cell? ⟨g, o + i, none⟩ = some (.int .i64 n) := by
        obtain ⟨a, cap, h1, h2, h3, h4⟩ := HS.out.outside HN.out d3
        have e := (Value.slice.inj h1).1
        subst e
        rcases h4 with h4 | ⟨g, o, h5, h6⟩
        · subst h4; simp at hlt
        · exact ⟨g, o, h5, h6⟩
      have hcell := hc k n hn
      have hil : (k : Int) < ns.length := by omega
      have htk : ns.take (k + 1) = ns.take k ++ [n] := by rw [List.take_add_one, hn]; rfl
      have hfa : H.freeAll (ns.take (k + 1)) = (H.freeAll (ns.take k)).drop n := by rw [htk, HeapM.freeAll, List.foldl_append]; rfl
      have hfr : H.freed (ns.take (k + 1)) = H.freed (ns.take k) + (getL (H.freeAll (ns.take k)).objs n).isSome.toNat := by rw [htk, HeapM.freed_append]
      have hfl : (H.freed (ns.take k) : Int) ≤ k := by
        have := H.freed_le (ns.take k); rw [List.length_take] at this; omega
      have hfine := HF.out.freeAll (ns.take k)
      have HFA := Lib.hid (And.intro hfa hfr)
      clear hfa hfr htk hc hn
      obtain ⟨p, hp, hof⟩ := d1.of_any (V.ref n hokn)
      have hof1 := hof wr (Below.refl _ _)
      have hpo : (HeapM.of (H.freeAll (ns.take k)) (V.ref n hokn)) = getL (H.freeAll (ns.take k)).objs n := by simp [HeapM.of, V.ref]
      rw [hpo] at hp
      simp only [V.val, V.ref] at hof1
      have HOF := Lib.hid hof1
      clear hof hof1 hpo
      generalize H.freeAll (ns.take k) = Hk at *
      cases p with
      | none =>
        have hno : getL Hk.objs n = none := by simpa using hp.symm
        have HNO := Lib.hid hno
        have HD := Lib.hid (And.intro d1 (And.intro d2 d3))
        clear hp hno d1 d2 d3
        go_wp2_with fail
        refine HOF.out.mono ?_
        rintro e w1 ⟨rfl, hb1⟩
        go_wp2
        obtain ⟨d1, d2, d3⟩ := HD.out
        refine ⟨⟨k + 1, by omega, by go_num, ?_, F', ?_, d2, d3.trans (Outside.of_below hb1 F) (Grow.refl _ _)⟩, by simp [intOf]; omega⟩
        · rw [HFA.out.2, HNO.out]; simp
        · rw [HFA.out.1, HeapM.drop_none HNO.out]; exact d1.below hb1
      | some a =>
        obtain ⟨oo, hoo⟩ := Option.isSome_iff_exists.1 hp.symm
        have HNO := Lib.hid hoo
        have HDR := Lib.hid (fun W (hW : Below wr.heap.size wr W) => heap_drop W h n hokn (d1.below hW) hoo hfine.nk (hfine.fits (n, oo) (getL_mem hoo)))
        have HD := Lib.hid (And.intro d1 (And.intro d2 d3))
        clear hp hoo d1 d2 d3 hfine
        go_wp2_with fail
        refine HOF.out.mono ?_
        rintro e w1 ⟨rfl, hb1⟩
        go_wp2_with fail
        refine (HDR.out _ hb1).mono ?_
        rintro e w2 ⟨sv2, rfl, s1, s2, F2, s3, s4, s5⟩
        have HS5 := Lib.hid (And.intro s3 (And.intro s4 s5))
        clear s1 s2 s3 s4 s5
        go_wp2
        obtain ⟨d1, d2, d3⟩ := HD.out
        obtain ⟨s3, s4, s5⟩ := HS5.out
        refine ⟨⟨k + 1, by omega, by go_num, ?_, F2, ?_, fun x hx => d2 x (s4 x hx), ?_⟩, by simp [intOf]; omega⟩
        · rw [HFA.out.2, HNO.out]; simp
        · rw [HFA.out.1]; exact s3
        · exact (d3.trans (Outside.of_below hb1 F) (Grow.refl _ _)).trans (s5.mono d2) (Grow.refl _ _)
    · have : k = ns.length := by omega
      subst this
      have HD := Lib.hid (And.intro d1 (And.intro d2 d3))
      clear d1 d2 d3
      go_wp2
      go_ret
      unfold FreePost
      have := HD.out
      rw [List.take_length] at this ⊢
      exact ⟨rfl, F', this⟩
end Go.Proofs.YtobcnffjfclolaaDoor
/- The heap: Live. -/
namespace Go.Proofs.YtobcnffjfclolaaDoor
set_option linter.unusedSimpArgs false
open Go.RowKit
set_option linter.unusedVariables false
def HeapM.live (H : HeapM) (k : Int) : Nat := (H.objs.filter fun p => decide (k = 0) || decide (p.2.kind = k)).length
/-- Is the object of this row of the map counted? -/
def kindIs (rows : List HRow) (k : Int) (p : Int × Nat) : Bool := decide (k = 0) || rows.any fun q => decide (q.n = p.1) && decide (q.o.kind = k)
theorem kindIs_mem {rows : List HRow} (hn : (rows.map (·.n)).Nodup) (k : Int) {q : HRow} (hq : q ∈ rows) (b : Nat) : kindIs rows k (q.n, b) = (decide (k = 0) || decide (q.o.kind = k)) := by
  unfold kindIs
  congr 1
  rw [Bool.eq_iff_iff]
  simp only [decide_eq_true_eq, List.any_eq_true, Bool.and_eq_true]
  constructor
  · rintro ⟨q', hq', h1, h2⟩
    have hnn : ((rows.map fun q => (q.n, q)).map (·.1)).Nodup := by simpa [List.map_map, Function.comp_def] using hn
    have e1 := getL_of_mem hnn (k := q.n) (x := q) (List.mem_map.2 ⟨q, hq, rfl⟩)
    have e2 := getL_of_mem hnn (k := q'.n) (x := q') (List.mem_map.2 ⟨q', hq', rfl⟩)
    have : q' = q := by rw [h1, e1] at e2; exact (Option.some.inj e2).symm
    rw [← this]; exact h2
  · intro h; exact ⟨q, hq, rfl, h⟩
theorem live_rows {rows : List HRow} (hn : (rows.map (·.n)).Nodup) (k : Int) : ((rows.map fun q => (q.n, q.o)).filter fun p => decide (k = 0) || decide (p.2.kind = k)).length = ((rows.map fun q => (q.n, q.b)).filter (kindIs rows k)).length := by
  rw [List.filter_map, List.filter_map, List.length_map, List.length_map]
  congr 1
  refine List.filter_congr fun q hq => ?_
  simp only [Function.comp, kindIs_mem hn k hq]
structure LiveAt (w : World) (h : Nat) (H : HeapM) (ma : Nat) (obs : List (Int × Nat)) (rows : List HRow) : Prop where
  c0 : w.cell? ⟨h, 0, none⟩ = some (.map (some ma))
  hm : mapIs w Tryd.prog 2 ekI exP ma obs
  obj : ∀ q ∈ rows, w.cell? ⟨q.b, 0, none⟩ = some (.int .i64 q.o.kind)
  eq : obs = rows.map fun q => (q.n, q.b)
  eo : H.objs = rows.map fun q => (q.n, q.o)
  nd : (rows.map (·.n)).Nodup
theorem HeapIs.liveAt {w : World} {h : Nat} {H : HeapM} {ε : Int → Int} {F : List Nat} (hh : HeapIs w h H ε F) : ∃ ma obs rows, LiveAt w h H ma obs rows := by
  obtain ⟨ma, mr, rows, r, h1, h2, h3, h4, h5, h6, h7, h8⟩ := hh
  refine ⟨ma, _, rows, cellAt h1 0 rfl, h2, fun q hq => ?_, rfl, h5, ?_⟩
  · obtain ⟨rv, d, G, k1, _⟩ := h4 q hq
    exact cellAt k1 0 rfl
  · have := h2.nodup; simpa [List.map_map, Function.comp_def] using this
def LiveRel (w : World) (ma : Nat) (rows : List HRow) (k : Int) (total g : Nat) (n : Value) (wr : World) : Prop :=
  ∃ left, g = left.length ∧ iterIs wr Tryd.prog 2 ekI exP ma w.heap.size (rows.map fun q => (q.n, q.b)) left ∧ (∀ p ∈ left, p ∈ rows.map fun q => (q.n, q.b)) ∧ (∃ m : Nat, n = .int .i64 m ∧ m + (left.filter (kindIs rows k)).length = total) ∧ Below w.heap.size w wr
set_option maxRecDepth 100000 in
set_option maxHeartbeats 800000 in
theorem heap_live (w : World) (h : Nat) (k : Int) {H : HeapM} {ε : Int → Int} {F : List Nat} (hh : HeapIs w h H ε F) (hsmall : H.objs.length ≤ 1000000000) :
    Calls Tryd.prog 30 #[.pointer (some ⟨h, 0, none⟩), .int .i64 k] w fun e w' => e = .returned (.int .i64 (H.live k)) ∧ Below w.heap.size w w' := by
  obtain ⟨ma, obs, rows, L⟩ := hh.liveAt
  have hl : H.live k = ((rows.map fun q => (q.n, q.b)).filter (kindIs rows k)).length := by
    unfold HeapM.live; rw [L.eo]; exact live_rows L.nd k
  have hlen : rows.length ≤ 1000000000 := by have := hsmall; rw [L.eo, List.length_map] at this; exact this
  rw [hl]
  have hobs := L.eq
  subst hobs
  have LL := Lib.hid L
  have c0 := L.c0
  have HLEN := Lib.hid hlen
  have hmal := L.hm.lt
  clear hl hh L hsmall hlen
  obtain ⟨total, htot⟩ : ∃ t, ((rows.map fun q => (q.n, q.b)).filter (kindIs rows k)).length = t := ⟨_, rfl⟩
  rw [htot]
  have HTOT := Lib.hid htot
  clear htot
  go_enter Tryd.func30, Tryd.ntmps30
  go_wp2_with (at_range; refine wpList_range_is rfl _ 68 rfl 76 Tryd.underlying68 rfl LL.out.hm ?_; intro w1 i1 i2 i3)
  have hb1 : Below w.heap.size w w1 := ⟨i2.os, i2.tape, i2.output, i2.size, fun b hb => i2.block b hb (by simp)⟩
  have hsz1 : w.heap.size < w1.heap.size := by omega
  have hst : LiveRel w ma rows k total (rows.map fun q => (q.n, q.b)).length (.int .i64 (0 : Int)) w1 := ⟨_, rfl, i1, fun p hp => hp, ⟨0, rfl, by simpa using HTOT.out⟩, hb1⟩
  have HST := Lib.hid hst
  clear hst i1 i2 i3 hb1 hsz1
  go_frame
  go_loopg [5] (rows.map fun q => (q.n, q.b)).length (fun g n wr => LiveRel w ma rows k total g n wr)
  case atStart => exact HST.out
  case round =>
    clear HST
    obtain ⟨left, rfl, d1, d2, ⟨m, rfl, hm⟩, d3⟩ := hrel
    have D1 := Lib.hid d1
    have hml : m ≤ rows.length := by
      have h1 := HTOT.out
      have h2 := List.length_filter_le (kindIs rows k) (rows.map fun q => (q.n, q.b))
      rw [List.length_map] at h2
      omega
    have hbig : (m : Int) ≤ 1000000000 := by have := HLEN.out; omega
    have HM := Lib.hid (And.intro hm (And.intro d2 d3))
    clear d1 d2 d3 hm hml
    go_wp2_with (at_next; refine wpList_next_is rfl _ rfl rfl D1.out ?_ ?_)
    · intro hnil
      have HN := Lib.hid hnil
      clear hnil
      go_wp2
      go_ret
      have := HM.out.1
      rw [HN.out] at this
      exact ⟨ret_i (by simp at this; omega), HM.out.2.2⟩
    · intro pk px left' w2 hp hi ho he
      obtain ⟨hm, d2, d3⟩ := HM.out
      obtain ⟨q, hq, hqe⟩ := List.mem_map.1 (d2 (pk, px) (hp.mem_iff.2 (by simp)))
      cases hqe
      have hcell := LL.out.obj q hq
      have hqb := World.block_lt_of_cell? w _ hcell
      have hB2 : Below w.heap.size w w2 := ⟨ho.2.os.trans d3.os, ho.2.tape.trans d3.tape, ho.2.output.trans d3.output, by have := d3.size; have := ho.1; omega, fun b hb => by
        rw [ho.2.block b (by have := d3.size; omega) (by simp; omega)]; exact d3.block b hb⟩
      have cell2 := cellBelow hcell hB2
      have hkm := kindIs_mem LL.out.nd k hq q.b
      have hlen' : left.length = left'.length + 1 := by have := hp.length_eq; simpa using this
      have hfil : (left.filter (kindIs rows k)).length = (left'.filter (kindIs rows k)).length + (decide (k = 0) || decide (q.o.kind = k)).toNat := by
        rw [(hp.filter _).length_eq, List.filter_cons, hkm]
        cases (decide (k = 0) || decide (q.o.kind = k)) <;> simp
      have HX := Lib.hid (And.intro hlen' (And.intro hfil (And.intro hi (And.intro hB2 (And.intro hm (fun p (hp' : p ∈ left') => d2 p (hp.mem_iff.2 (by simp [hp']))))))))
      clear hkm hlen' hfil hi hB2 hm d2 d3 hp ho hcell hqb hq
      simp only [ekI, exP] at he
      by_cases hk0 : k = 0
      · have hk0' : (k == 0) = true := by simp [hk0]
        have HK0 := Lib.hid hk0
        clear hk0
        go_wp2
        obtain ⟨e1, e2, e3, e4, e5, e6⟩ := HX.out
        go_roundg left'.length
        case rel => exact ⟨left', rfl, e3, e6, ⟨m + 1, by go_num, by rw [show (decide (k = 0) || decide (q.o.kind = k)) = true by simp [HK0.out]] at e2; simp only [Bool.toNat_true] at e2; omega⟩, e4⟩
        all_goals omega
      · have hk0' : (k == 0) = false := by simp [hk0]
        by_cases hk1 : q.o.kind = k
        · have hk1' : (q.o.kind == k) = true := by simp [hk1]
          have HK1 := Lib.hid hk1
          clear hk1 hk0
          go_wp2
          obtain ⟨e1, e2, e3, e4, e5, e6⟩ := HX.out
          go_roundg left'.length
          case rel => exact ⟨left', rfl, e3, e6, ⟨m + 1, by go_num, by simp [HK1.out] at e2; omega⟩, e4⟩
          all_goals omega
        · have hk1' : (q.o.kind == k) = false := by simp [hk1]
          have HK1 := Lib.hid (And.intro hk0 hk1)
          clear hk1 hk0
          go_wp2
          obtain ⟨e1, e2, e3, e4, e5, e6⟩ := HX.out
          go_roundg left'.length
          case rel => exact ⟨left', rfl, e3, e6, ⟨m, rfl, by simp [HK1.out.1, HK1.out.2] at e2; omega⟩, e4⟩
          all_goals omega
end Go.Proofs.YtobcnffjfclolaaDoor
/- The heap: Sweep's closure. -/
namespace Go.Proofs.YtobcnffjfclolaaDoor
set_option linter.unusedSimpArgs false
open Go.RowKit
set_option linter.unusedVariables false
/-- In the midst of a sweep: the heap, the box of its pointer, the box of what waits. -/
structure Sw (w : World) (h : Nat) (H : HeapM) (ε : Int → Int) (F : List Nat) (bh bw : Nat) (l : List Int) (W : World) : Prop where
  bh : Boxed W bh 28 (.pointer (some ⟨h, 0, none⟩))
  bw : ∃ v, Boxed W bw 89 v ∧ slIs W 2 1 intCell v l ∧ (∀ b, v.ownBlock = some b → w.heap.size ≤ b)
  hh : ∃ F', HeapIs W h H ε F' ∧ (∀ x ∈ F', x ∈ F)
  out : Outside F w W
def isLoose (H : HeapM) (ε : Int → Int) (n : Int) : Bool := (getL H.objs n).isSome && decide (cnt (allVals H.objs) n + ε n = 0)
end Go.Proofs.YtobcnffjfclolaaDoor
/- Sweeping, plainly. -/
namespace Go.Proofs.YtobcnffjfclolaaDoor
set_option linter.unusedSimpArgs false
open Go.RowKit
set_option linter.unusedVariables false
/-- Each of S is an object, and is held, or one of S holds it. -/
def Sup (H : HeapM) (E : List V) (S : Int → Prop) : Prop := ∀ n, S n → (getL H.objs n).isSome ∧ (0 < cnt E n ∨ ∃ m o, S m ∧ getL H.objs m = some o ∧ 0 < cnt o.vals n)
def Kept (H : HeapM) (E : List V) (n : Int) : Prop := ∃ S, Sup H E S ∧ S n
structure SwInv (H : HeapM) (E : List V) (Hk : HeapM) (freed : Nat) : Prop where
  sub : ∃ f, Hk.objs = H.objs.filter f
  last : Hk.last = H.last
  keep : ∀ n, Kept H E n → (getL Hk.objs n).isSome
  freed : freed + Hk.objs.length = H.objs.length
theorem SwInv.start {H : HeapM} (E : List V) (hn : (H.objs.map (·.1)).Nodup) : SwInv H E H 0 :=
  ⟨⟨fun _ => true, by rw [List.filter_eq_self.2]; simp⟩, rfl, fun n ⟨S, hS, h⟩ => (hS n h).1, by omega⟩
/-- What waits: all that is loose, but what is yet to be looked at; and nothing else that is there. -/
structure WaitInv (H : HeapM) (E : List V) (todo : Int → Prop) (l : List Int) : Prop where
  all : ∀ n, isLoose H (cnt E) n = true → n ∈ l ∨ todo n
  only : ∀ n ∈ l, (getL H.objs n).isSome = true → isLoose H (cnt E) n = true
def HeapM.weight (H : HeapM) : Nat := (allVals H.objs).length + H.objs.length
end Go.Proofs.YtobcnffjfclolaaDoor
