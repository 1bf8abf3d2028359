import Derived.Test.YtobcnffjfclolaaDoorFaultA
import Derived.Test.YtobcnffjfclolaaDoorShelf
import Derived.Test.YtobcnffjfclolaaDoorObjC
import Derived.Test.YtobcnffjfclolaaDoorRows3
import Derived.Lib.LaidTab
/- fault: the table's iterator, Names, Base. -/
namespace Go.Proofs.YtobcnffjfclolaaDoor
set_option linter.unusedSimpArgs false
open Go.RowKit
set_option linter.unusedVariables false
attribute [local go_sem] Oper.semAt_some
/-- A name and its base, as the table has them. -/
def fieldF (k : Nat) : List UInt8 := (nameF k).data.toList ++ [58] ++ (baseF k).data.toList
def tableF : List UInt8 := (List.range 16).flatMap (fun k => fieldF k ++ [32]) ++ fieldF 16
theorem fields_table : Lib.fields tableF = (List.range 17).map fieldF := by decide +kernel
theorem table_small : tableF.length < 4294967281 := by decide +kernel
theorem table_ascii : ∀ b ∈ tableF, b.toNat < 128 := by decide +kernel
theorem field_small : ∀ k, k < 17 → (fieldF k).length < 1000 := by decide +kernel
theorem cut_field : ∀ k, k < 17 → Lib.cut (fieldF k) [58] = ((nameF k).data.toList, (baseF k).data.toList, true) := by decide +kernel
/-- What the library's own variables hold. -/
def GlobF (w : World) : Prop := ∀ W, Below w.heap.size w W → Lib.TabIs Tryd.prog W "strings.asciiSpace" .u8 Lib.asciiSpaceTab ∧ ∃ m, W.cell? ⟨2, 0, none⟩ = some (.int .i64 m)
def strCell (s : ByteArray) : List Value := [.string s]
theorem strCell_one (p : ByteArray) : ∀ u ∈ strCell p, u.oneCell' = true := by intro u hu; simp [strCell] at hu; subst hu; rfl
abbrev strsR (v : Value) (l : List ByteArray) : Res := rowR 9 1 strCell v l
theorem info_str : (Tryd.prog.info? 9).map (fun i => (i.zero, i.size, i.bytes)) = some (some (.string ⟨#[]⟩), 1, 16) := by kernel_rfl
def fieldsV : Array Value := ((List.range 17).map fun k => Value.string ⟨(fieldF k).toArray⟩).toArray
theorem fieldsV_get {k : Nat} (hk : k < 17) : fieldsV[k]? = some (.string ⟨(fieldF k).toArray⟩) := by
  unfold fieldsV
  rw [List.getElem?_toArray, List.getElem?_map, List.getElem?_range hk]; rfl
theorem fields_ok (W : World) (hT : Lib.TabIs Tryd.prog W "strings.asciiSpace" .u8 Lib.asciiSpaceTab) (s : ByteArray) (hs : s.data.toList = tableF) :
    Calls Tryd.prog 58 #[.string s] W fun e w' => e = .returned (.slice (some ⟨W.heap.size, 0, none⟩) 17 17) ∧ w' = W.alloc (.cells fieldsV 9) := by
  have hsz : s.size < 4294967281 := by
    have h1 : s.size = s.data.toList.length := by rw [Array.length_toList]; rfl
    rw [h1, hs]; exact table_small
  have := Tryd.strings_Fields s W hsz (fun j b hj => by rw [hs] at hj; exact table_ascii b (List.mem_of_getElem? hj)) hT
  rw [hs, fields_table] at this
  refine this.mono fun e w' ⟨e1, e2⟩ => ⟨?_, ?_⟩
  · rw [e1, List.length_map, List.length_range]
  · rw [e2, List.map_map]; rfl
theorem cut_ok (W : World) {m : Int} (hm : W.cell? ⟨2, 0, none⟩ = some (.int .i64 m)) {k : Nat} (hk : k < 17) :
    Calls Tryd.prog 59 #[.string ⟨(fieldF k).toArray⟩, .string ⟨#[58]⟩] W fun e w' => e = .returned (.tuple #[.string (nameF k), .string (baseF k), .bool true]) ∧ Below W.heap.size W w' := by
  have hsz : (⟨(fieldF k).toArray⟩ : ByteArray).size < 4294967281 := by
    have := field_small k hk
    show (fieldF k).toArray.size < _
    rw [List.size_toArray]; omega
  have := Tryd.strings_Cut ⟨(fieldF k).toArray⟩ ⟨#[58]⟩ m W hsz hm
  have e1 : Lib.cut (⟨(fieldF k).toArray⟩ : ByteArray).data.toList (⟨#[58]⟩ : ByteArray).data.toList = ((nameF k).data.toList, (baseF k).data.toList, true) := cut_field k hk
  rw [e1] at this
  refine this.mono fun e w' ⟨h1, n, h2⟩ => ⟨?_, ?_⟩
  · rw [h1]
  · rw [h2]; exact Below.drewN (Below.refl _ _) n
def allE (k : Nat) : Array Value := #[.string (nameF k), .string (baseF k)]
theorem enters_allF : Enters Tryd.prog 57 := enters_of Tryd.func57 (by kernel_rfl) rfl
theorem all_ok (W : World) : Calls Tryd.prog 36 #[] W fun e W' => e = .returned (.func (.func 57) #[] #[]) ∧ W' = W := by
  go_enter Tryd.func36, Tryd.ntmps36
  go_wp2
  go_ret
  exact ⟨rfl, rfl⟩
section
variable {w W : World} {Rs : List Res}
set_option maxRecDepth 100000 in
set_option maxHeartbeats 1600000 in
theorem all_iter (hG : GlobF w) : IterSep Tryd.prog w 57 #[] allE 17 [] := by
  intro l In Ex W1 R hY h0 S0
  rw [List.append_nil] at S0
  have HY := Lib.hid hY
  have HG := Lib.hid hG
  have CF := Lib.hid (fields_ok W1 (hG W1 S0.below).1)
  have S1 := S0.alloc (.cells fieldsV 9)
  have S2 : Sep w (R ++ [boxR W1.heap.size (.cells fieldsV 9)]) (W1.alloc (.cells fieldsV 9)) := S1.perm (by have := tail_perm1 (boxR W1.heap.size (.cells fieldsV 9)) R []; rw [List.append_nil] at this; exact this)
  replace S2 := Lib.hid S2
  have H0 := Lib.hid h0
  clear hY hG S0 S1 h0
  refine (callsIn_wide (n := 8)).1 ?_
  refine callsIn_of_wp Tryd.func57 rfl trivial ?_ rfl
  simp only [Tryd.ntmps57, List.size_toArray, List.length_cons, List.length_nil, Nat.reduceAdd, Nat.reduceSub, Array.replicate_succ, Array.replicate_zero, List.push_toArray, List.append_toArray, List.nil_append, List.cons_append]
  gi_wp2_with fail
  refine ⟨trivial, (callsIn_wide.2 (CF.out _ (by kernel_rfl))).mono ?_⟩
  rintro e w1 ⟨rfl, rfl⟩
  obtain ⟨B, hB⟩ : ∃ gx_, (W1.heap.size) = gx_ := ⟨_, rfl⟩
  rw [hB] at S2
  rw [hB]
  clear CF hB
  gi_wp2_with fail
  gi_loopw [9] (fun iv wr => ∃ (k : Nat) (R' : List Res), k ≤ 17 ∧ iv = .int .i64 k ∧ In k R' ∧ Sep w (R' ++ [boxR B (.cells fieldsV 9)]) wr) (fun iv _ => 17 - (intOf iv).toNat)
  case atStart => exact ⟨0, R, by omega, rfl, H0.out, S2.out⟩
  case round =>
    clear S2 H0
    obtain ⟨k, R2, hk, rfl, hIn, S3⟩ := hrel
    by_cases hlt : k < 17
    · have hlti : (k : Int) < 17 := by omega
      have hb := S3.box (b := B) (o := .cells fieldsV 9) R2.length (by simp)
      have z0 := cellAt hb k (fieldsV_get hlt)
      obtain ⟨m, hm⟩ := (HG.out wr S3.below).2
      have C2 := Lib.hid (cut_ok wr hm hlt)
      have HX := Lib.hid (And.intro hlt hIn)
      have S4 := Lib.hid S3
      clear S3 hb hm hIn hk
      gi_wp2_with fail
      refine ⟨trivial, (callsIn_wide.2 C2.out).mono ?_⟩
      rintro e w2 ⟨rfl, b2⟩
      have S5 := S4.out.later b2
      obtain ⟨fn, tmps, assign, body, hy, hR⟩ := HY.out k R2 w2 [boxR B (.cells fieldsV 9)] HX.out.1 HX.out.2 S5
      simp only [allE] at hy
      clear C2 S4 z0 b2 S5 hlt
      gi_wp2_with fail
      refine hR.mono ?_
      rintro e w3 (⟨rfl, R3, hR3, S6⟩ | ⟨rfl, R3, hR3, S6⟩)
      · have S7 := Lib.hid S6
        have HR3 := Lib.hid hR3
        clear hy hR S6 hR3
        gi_wp2
        exact ⟨⟨k + 1, R3, by have := HX.out.1; omega, by go_num, HR3.out, S7.out⟩, by have := HX.out.1; simp [intOf]; omega⟩
      · have S7 := Lib.hid (S6.sub (List.sublist_append_left R3 _))
        have HR3 := Lib.hid hR3
        clear hy hR S6 hR3
        gi_wp2
        refine bodyPost_ret (results_none rfl _ _ _) rfl ?_
        exact ⟨⟨_, rfl⟩, .inr ⟨k + 1, R3, by have := HX.out.1; omega, HR3.out, S7.out⟩⟩
    · obtain rfl : k = 17 := by omega
      have hlti : ¬ ((17 : Nat) : Int) < 17 := by omega
      have S4 := Lib.hid (S3.sub (List.sublist_append_left R2 _))
      have HIN := Lib.hid hIn
      clear S3 hIn hlt hk
      gi_wp2
      refine bodyPost_end (results_none rfl _ _ _) rfl ?_
      exact ⟨⟨_, rfl⟩, .inl ⟨R2, HIN.out, S4.out⟩⟩
end
end Go.Proofs.YtobcnffjfclolaaDoor
/- fault: Names, Base. -/
namespace Go.Proofs.YtobcnffjfclolaaDoor
set_option linter.unusedSimpArgs false
open Go.RowKit
set_option linter.unusedVariables false
attribute [local go_sem] Oper.semAt_some
section
variable {w W : World} {Rs : List Res}
theorem Sep.rowNil (S : Sep w Rs W) {α : Type} (e : TypeId) (m : Nat) (f : α → List Value) : Sep w (rowR e m f (.slice none 0 0) [] :: Rs) W :=
  S.addRow (Below.refl _ _) (World.ownsRow_nil _ _ _ _) (by simp [Value.ownBlock])
def takeN (k : Nat) : List ByteArray := (List.range k).map nameF
theorem takeN_succ (k : Nat) : takeN (k + 1) = takeN k ++ [nameF k] := by unfold takeN; rw [List.range_succ, List.map_append]; rfl
theorem takeN_len (k : Nat) : (takeN k).length = k := by simp [takeN]
set_option maxRecDepth 100000 in
set_option maxHeartbeats 3200000 in
theorem fnames_ok (S : Sep w Rs W) (hG : GlobF w) : Calls Tryd.prog 10 #[] W fun e W' => ∃ a c, e = .returned (.slice a 17 c) ∧ Sep w (strsR (.slice a 17 c) (takeN 17) :: Rs) W' := by
  obtain ⟨b1, hb1⟩ : ∃ gx_, (W.heap.size) = gx_ := ⟨_, rfl⟩
  have S1 := S.alloc (.cells #[.slice none 0 0] 24)
  rw [hb1] at S1
  have HS : Hid (Sep w (boxR b1 (.cells #[.slice none 0 0] 24) :: strsR (.slice none 0 0) (takeN 0) :: Rs) (W.alloc (.cells #[.slice none 0 0] 24))) := Lib.hid (S1.rowNil 9 1 strCell).swap
  have IT := Lib.hid (all_iter hG)
  clear S S1 hG
  refine (callsIn_wide (n := 9)).1 ?_
  refine callsIn_of_wp_marks Tryd.func10 rfl trivial ?_ rfl
  simp only [Tryd.ntmps10, List.size_toArray, List.length_cons, List.length_nil, Nat.reduceAdd, Nat.reduceSub, Array.replicate_succ, Array.replicate_zero, List.push_toArray, List.append_toArray, List.nil_append, List.cons_append]
  gi_wp2_with fail
  obtain ⟨W1, hW1⟩ : ∃ gx_, (W.alloc (.cells #[.slice none 0 0] 24)) = gx_ := ⟨_, rfl⟩
  rw [hW1] at HS
  rw [hW1]
  try rw [hb1]
  clear hW1 hb1
  refine ⟨trivial, (callsIn_wide.2 (all_ok W1)).mono ?_⟩
  rintro e W2 ⟨rfl, rfl⟩
  obtain ⟨c1, hB⟩ : ∃ gx_, (W2.heap.size) = gx_ := ⟨_, rfl⟩
  gi_wp2_with fail
  refine range_sep (w := w) (B := c1) hB (hg := rfl) enters_allF (fun _ => rfl)
    (fun k R => ∃ a c, R = boxR b1 (.cells #[.slice a k c] 24) :: strsR (.slice a k c) (takeN k) :: Rs)
    (fun _ _ _ => False) (n := 17) (encs := allE) IT.out ⟨none, 0, rfl⟩ (by rw [List.append_nil]; exact HS.out)
    (fun k s' => { tmps := #[.slice none 0 0, .pointer (some ⟨b1, 0, none⟩), .string (nameF k), .func (.func 57) #[] #[], .string (nameF k), .string (baseF k), undef, undef, undef, undef, undef], defers := [] })
    (fun k W => W) (fun k s => []) (fun k W Rs _ S => S) ?assign ?body ?done ?stop
  case assign =>
    intro l k W K hk hK
    simp only [allE]
    gi_wp2
    exact hK
  case body =>
    rintro l k q _ Gs W3 hk ⟨a, c, rfl⟩ S3
    simp only [List.nil_append, List.cons_append] at S3
    have c0 := cellAt (S3.box (b := b1) 0 rfl) 0 (v := .slice a k c) rfl
    have S4 := S3.alloc (.cells #[.string (nameF k)] 9)
    have hone := Lib.hid (sees_one (f := strCell) (m := 1) (y := nameF k) (heapAllocNew W3 (.cells #[.string (nameF k)] 9)) rfl)
    have HK := Lib.hid hk
    replace S4 := Lib.hid S4
    have HL := Lib.hid (show (takeN k).length + [nameF k].length ≤ 9000000 by rw [takeN_len]; simp; omega)
    clear S3 HS IT hB hk
    gi_wp2_with (gi_at_builtin; refine wpListIn_append_rows rfl _ _ 24 9 rfl Tryd.underlying24 _ 16 info_str rfl (by decide) (by decide) (fun _ => rfl) strCell_one S4.out 2 rfl rfl _ [nameF k] rfl hone.out HL.out ?_)
    intro va vc w5 S5
    simp only [takeN_len, List.length_singleton] at S5
    simp only [takeN_len, List.length_singleton]
    rw [← takeN_succ] at S5
    replace S5 : Sep w (boxR b1 (.cells #[.slice a k c] 24) :: strsR (.slice va (k + 1) vc) (takeN (k + 1)) :: (Rs ++ Gs)) w5 := S5.tail
    have d0 := cellAt (S5.box (b := b1) 0 rfl) 0 (v := .slice a k c) rfl
    have d1 := frozenAt (S5.box (b := b1) 0 rfl) 0
    have S6 := Lib.hid (S5.setBox (cs := #[.slice a k c]) (t := 24) 0 rfl 0 (.slice va (k + 1) vc))
    clear S4 S5 hone c0
    gi_wp2
    exact ⟨_, ⟨va, vc, rfl⟩, S6.out⟩
  case done =>
    rintro _ W3 ⟨a, c, rfl⟩ S3
    simp only [List.append_nil] at S3
    have c0 := cellAt (S3.box (b := b1) 1 rfl) 0 (v := .slice a 17 c) rfl
    have S4 := Lib.hid S3
    clear S3 HS IT hB
    gi_wp2
    refine ⟨by simp, .inl ⟨_, _, rfl, run_takeDeferred (S4.out.box 0 rfl), ?_⟩⟩
    have S5 := S4.out.putObj 0 rfl (.deferred none)
    exact ⟨.slice a 17 c, by simp [results, Tryd.results10, go_sem], a, c, rfl, S5.tail.tail⟩
  case stop =>
    intro _ k _ W3 hk h
    exact h.elim
theorem ba_eq {a b : ByteArray} (h : a.toList = b.toList) : a = b := by
  rw [ByteArray.toList_eq, ByteArray.toList_eq] at h
  cases a; cases b
  simp only [ByteArray.mk.injEq]
  exact Array.toList_inj.1 h
/-- The name of one's base; nothing: there is none. -/
def baseS (s : ByteArray) : ByteArray := match (List.range 17).find? (fun k => decide (nameF k = s)) with | some k => baseF k | none => ⟨#[]⟩
theorem baseS_none {s : ByteArray} (h : ∀ j, j < 17 → nameF j ≠ s) : baseS s = ⟨#[]⟩ := by
  unfold baseS
  have : (List.range 17).find? (fun k => decide (nameF k = s)) = none := by
    rw [List.find?_eq_none]
    intro j hj
    simpa using h j (List.mem_range.1 hj)
  rw [this]
theorem baseS_some {s : ByteArray} {k : Nat} (hk : k < 17) (h : nameF k = s) : baseS s = baseF k := by
  unfold baseS
  cases g : (List.range 17).find? (fun k => decide (nameF k = s)) with
  | none =>
    rw [List.find?_eq_none] at g
    exact absurd h (by simpa using g k (List.mem_range.2 hk))
  | some j =>
    have h1 := List.find?_some g
    have h2 := List.mem_range.1 (List.mem_of_find?_eq_some g)
    obtain rfl := nameF_inj j h2 k hk (by rw [h]; simpa using h1)
    rfl
set_option maxRecDepth 100000 in
set_option maxHeartbeats 3200000 in
theorem fbase_ok (S : Sep w Rs W) (hG : GlobF w) (s : ByteArray) : Calls Tryd.prog 12 #[.string s] W fun e W' => e = .returned (.string (baseS s)) ∧ Sep w Rs W' := by
  obtain ⟨b1, hb1⟩ : ∃ gx_, (W.heap.size) = gx_ := ⟨_, rfl⟩
  have S1 := (S.alloc (.cells #[.string s] 9)).alloc (.cells #[.string ⟨#[]⟩] 9)
  simp only [World.size_alloc, hb1] at S1
  replace S1 : Hid (Sep w (boxR (b1 + 1) (.cells #[.string ⟨#[]⟩] 9) :: boxR b1 (.cells #[.string s] 9) :: Rs) _) := Lib.hid S1
  have IT := Lib.hid (all_iter hG)
  clear S hG
  refine (callsIn_wide (n := 9)).1 ?_
  refine callsIn_of_wp_marks Tryd.func12 rfl trivial ?_ rfl
  simp only [Tryd.ntmps12, List.size_toArray, List.length_cons, List.length_nil, Nat.reduceAdd, Nat.reduceSub, Array.replicate_succ, Array.replicate_zero, List.push_toArray, List.append_toArray, List.nil_append, List.cons_append]
  gi_wp2_with fail
  try simp only [hb1]
  obtain ⟨W1, hW1⟩ : ∃ gx_, ((W.alloc (.cells #[.string s] 9)).alloc (.cells #[.string ⟨#[]⟩] 9)) = gx_ := ⟨_, rfl⟩
  rw [hW1] at S1
  rw [hW1]
  clear hW1 hb1
  refine ⟨trivial, (callsIn_wide.2 (all_ok W1)).mono ?_⟩
  rintro e W2 ⟨rfl, rfl⟩
  obtain ⟨c1, hB⟩ : ∃ gx_, (W2.heap.size) = gx_ := ⟨_, rfl⟩
  gi_wp2_with fail
  refine range_sep (w := w) (B := c1) hB (hg := rfl) enters_allF (fun _ => rfl)
    (fun k R => (∀ j, j < k → nameF j ≠ s) ∧ R = boxR (b1 + 1) (.cells #[.string ⟨#[]⟩] 9) :: boxR b1 (.cells #[.string s] 9) :: Rs)
    (fun c k R => c = .ret ∧ R = boxR (b1 + 1) (.cells #[.string (baseS s)] 9) :: boxR b1 (.cells #[.string s] 9) :: Rs) (n := 17) (encs := allE) IT.out ⟨fun j hj => by omega, rfl⟩ (by rw [List.append_nil]; exact S1.out)
    (fun k s' => { tmps := #[.string s, .pointer (some ⟨b1, 0, none⟩), .pointer (some ⟨b1 + 1, 0, none⟩), .string (nameF k), .string (baseF k), .func (.func 57) #[] #[], .string (nameF k), .string (baseF k), undef, undef, undef, undef], defers := [] })
    (fun k W => W) (fun k s => []) (fun k W Rs _ S => S) ?assign ?body ?done ?stop
  case assign =>
    intro l k W K hk hK
    simp only [allE]
    gi_wp2
    exact hK
  case body =>
    rintro l k q _ Gs W3 hk ⟨hno, rfl⟩ S3
    simp only [List.nil_append, List.cons_append] at S3
    have c0 := cellAt (S3.box (b := b1) 1 rfl) 0 (v := .string s) rfl
    have HK := Lib.hid (And.intro hk hno)
    clear hno IT hB S1
    by_cases e : nameF k = s
    · have hb : baseS s = baseF k := baseS_some hk e
      have HB := Lib.hid hb
      have d0 := cellAt (S3.box (b := b1 + 1) 0 rfl) 0 (v := .string ⟨#[]⟩) rfl
      have d1 := frozenAt (S3.box (b := b1 + 1) 0 rfl) 0
      have S4 := Lib.hid (S3.setBox (cs := #[.string ⟨#[]⟩]) (t := 9) 0 rfl 0 (.string (baseF k)))
      subst e
      clear S3 hb hk
      gi_wp2
      refine ⟨_, ⟨rfl, rfl⟩, ?_⟩
      rw [HB.out]; exact S4.out
    · have hne : ((nameF k).toList == s.toList) = false := by rw [beq_eq_false_iff_ne]; exact fun h => e (ba_eq h)
      have HN := Lib.hid e
      have S4 := Lib.hid S3
      clear S3 e hk
      gi_wp2
      refine ⟨_, ⟨fun j hj => ?_, rfl⟩, S4.out⟩
      by_cases e : j = k
      · subst e; exact HN.out
      · exact HK.out.2 j (by omega)
  case done =>
    rintro _ W3 ⟨hno, rfl⟩ S3
    simp only [List.append_nil] at S3
    have d0 := cellAt (S3.box (b := b1 + 1) 1 rfl) 0 (v := .string ⟨#[]⟩) rfl
    have d1 := frozenAt (S3.box (b := b1 + 1) 1 rfl) 0
    have S4 := S3.setBox (cs := #[.string ⟨#[]⟩]) (t := 9) 1 rfl 0 (.string ⟨#[]⟩)
    have q0 := cellAt (S4.box (b := b1 + 1) 1 rfl) 0 (v := .string ⟨#[]⟩) rfl
    have HN := Lib.hid (baseS_none hno)
    replace S4 := Lib.hid S4
    clear S3 S1 IT hB hno
    gi_wp2
    refine ⟨by simp, .inl ⟨_, _, rfl, run_takeDeferred (S4.out.box 0 rfl), ?_⟩⟩
    have S5 := S4.out.putObj 0 rfl (.deferred none)
    have r0 := cellAt (S5.box (b := b1 + 1) 1 rfl) 0 (v := .string ⟨#[]⟩) rfl
    rw [HN.out]
    exact ⟨.string ⟨#[]⟩, by simp [results, Tryd.results12, go_sem, r0], rfl, S5.tail.tail.tail⟩
  case stop =>
    rintro _ k _ W3 hk ⟨rfl, rfl⟩ S3
    have S4 := Lib.hid S3
    clear S3 S1 IT hB
    gi_wp2
    refine ⟨by simp, .inl ⟨_, _, rfl, run_takeDeferred (S4.out.box 0 rfl), ?_⟩⟩
    have S5 := S4.out.putObj 0 rfl (.deferred none)
    have r0 := cellAt (S5.box (b := b1 + 1) 1 rfl) 0 (v := .string (baseS s)) rfl
    exact ⟨.string (baseS s), by simp [results, Tryd.results12, go_sem, r0], rfl, S5.tail.tail.tail⟩
end
end Go.Proofs.YtobcnffjfclolaaDoor
/- ch 15: the document's Names and Base, and Same of strs. -/
namespace Go.Proofs.YtobcnffjfclolaaDoor
set_option linter.unusedSimpArgs false
open Go.RowKit
set_option linter.unusedVariables false
def namesV : Array Value := ((List.range 17).map fun k => Value.string (nameF k)).toArray
theorem namesV_get {k : Nat} (hk : k < 17) : namesV[k]? = some (.string (nameF k)) := by
  unfold namesV
  rw [List.getElem?_toArray, List.getElem?_map, List.getElem?_range hk]; rfl
theorem rnames_ok (W : World) : Calls Tryd.prog 11 #[] W fun e W' => e = .returned (.slice (some ⟨W.heap.size, 0, none⟩) 17 17) ∧ W' = W.alloc (.cells namesV 9) := by
  go_enter Tryd.func11, Tryd.ntmps11
  go_wp2
  go_ret
  exact ⟨rfl, rfl⟩
theorem ref_same (a b n ca cb : Nat) (f : Nat → ByteArray) (w : World) (ha : ∀ j, j < n → w.cell? ⟨a, j, none⟩ = some (.string (f j))) (hb : ∀ j, j < n → w.cell? ⟨b, j, none⟩ = some (.string (f j))) (hn : n ≤ 9223372036854775807) :
    Calls Tryd.prog 9 #[.slice (some ⟨a, 0, none⟩) n ca, .slice (some ⟨b, 0, none⟩) n cb] w fun e w' => e = .returned (.bool true) ∧ ∃ m, w' = w.drewN m := by
  have h0 : ((n : Int) != (n : Int)) = false := by simp
  have HA := Lib.hid ha
  have HB := Lib.hid hb
  clear ha hb
  go_enter Tryd.func9, Tryd.ntmps9
  go_wp2
  go_loopw [5] (fun i wr => ∃ k : Nat, k ≤ n ∧ i = .int .i64 k ∧ Hid (∃ m, wr = w.drewN m)) (fun i _ => n - (intOf i).toNat)
  case atStart => exact ⟨0, by omega, rfl, 0, rfl⟩
  case round =>
    obtain ⟨k, hk, rfl, HW⟩ := hrel
    by_cases hlt : k < n
    · have c1 : wr.cell? ⟨a, k, none⟩ = some (.string (f k)) := by obtain ⟨m, hm⟩ := HW.out; subst hm; exact HA.out k hlt
      have c2 : wr.cell? ⟨b, k, none⟩ = some (.string (f k)) := by obtain ⟨m, hm⟩ := HW.out; subst hm; exact HB.out k hlt
      have HN : ∀ n, Hid (∃ j, wr.drewN n = w.drewN j) := fun n => by
        obtain ⟨j, hj⟩ := HW.out; subst hj; exact ⟨j + n, by simp [World.drewN, Nat.add_assoc]⟩
      go_wp2_with fail
      go_quiet (fail)
      go_wp2
      go_roundw
      case rel => exact ⟨k + 1, by omega, by go_num, HN _⟩
      case measure => simp [intOf]; omega
    · go_wp2
      go_ret
      exact ⟨rfl, HW.out⟩
theorem rbase_0 (W : World) : Calls Tryd.prog 13 #[.string ⟨#[69, 120, 99, 101, 112, 116, 105, 111, 110]⟩] W fun e W' => e = .returned (.string ⟨#[]⟩) ∧ W' = W := by
  go_enter Tryd.func13, Tryd.ntmps13
  go_wp2
  go_ret
  exact ⟨rfl, rfl⟩
theorem rbase_1 (W : World) : Calls Tryd.prog 13 #[.string ⟨#[76, 111, 111, 107, 117, 112, 69, 114, 114, 111, 114]⟩] W fun e W' => e = .returned (.string ⟨#[69, 120, 99, 101, 112, 116, 105, 111, 110]⟩) ∧ W' = W := by
  go_enter Tryd.func13, Tryd.ntmps13
  go_wp2
  go_ret
  exact ⟨rfl, rfl⟩
theorem rbase_2 (W : World) : Calls Tryd.prog 13 #[.string ⟨#[73, 110, 100, 101, 120, 69, 114, 114, 111, 114]⟩] W fun e W' => e = .returned (.string ⟨#[76, 111, 111, 107, 117, 112, 69, 114, 114, 111, 114]⟩) ∧ W' = W := by
  go_enter Tryd.func13, Tryd.ntmps13
  go_wp2
  go_ret
  exact ⟨rfl, rfl⟩
theorem rbase_3 (W : World) : Calls Tryd.prog 13 #[.string ⟨#[75, 101, 121, 69, 114, 114, 111, 114]⟩] W fun e W' => e = .returned (.string ⟨#[76, 111, 111, 107, 117, 112, 69, 114, 114, 111, 114]⟩) ∧ W' = W := by
  go_enter Tryd.func13, Tryd.ntmps13
  go_wp2
  go_ret
  exact ⟨rfl, rfl⟩
theorem rbase_4 (W : World) : Calls Tryd.prog 13 #[.string ⟨#[65, 114, 105, 116, 104, 109, 101, 116, 105, 99, 69, 114, 114, 111, 114]⟩] W fun e W' => e = .returned (.string ⟨#[69, 120, 99, 101, 112, 116, 105, 111, 110]⟩) ∧ W' = W := by
  go_enter Tryd.func13, Tryd.ntmps13
  go_wp2
  go_ret
  exact ⟨rfl, rfl⟩
theorem rbase_5 (W : World) : Calls Tryd.prog 13 #[.string ⟨#[90, 101, 114, 111, 68, 105, 118, 105, 115, 105, 111, 110, 69, 114, 114, 111, 114]⟩] W fun e W' => e = .returned (.string ⟨#[65, 114, 105, 116, 104, 109, 101, 116, 105, 99, 69, 114, 114, 111, 114]⟩) ∧ W' = W := by
  go_enter Tryd.func13, Tryd.ntmps13
  go_wp2
  go_ret
  exact ⟨rfl, rfl⟩
theorem rbase_6 (W : World) : Calls Tryd.prog 13 #[.string ⟨#[79, 118, 101, 114, 102, 108, 111, 119, 69, 114, 114, 111, 114]⟩] W fun e W' => e = .returned (.string ⟨#[65, 114, 105, 116, 104, 109, 101, 116, 105, 99, 69, 114, 114, 111, 114]⟩) ∧ W' = W := by
  go_enter Tryd.func13, Tryd.ntmps13
  go_wp2
  go_ret
  exact ⟨rfl, rfl⟩
theorem rbase_7 (W : World) : Calls Tryd.prog 13 #[.string ⟨#[84, 121, 112, 101, 69, 114, 114, 111, 114]⟩] W fun e W' => e = .returned (.string ⟨#[69, 120, 99, 101, 112, 116, 105, 111, 110]⟩) ∧ W' = W := by
  go_enter Tryd.func13, Tryd.ntmps13
  go_wp2
  go_ret
  exact ⟨rfl, rfl⟩
theorem rbase_8 (W : World) : Calls Tryd.prog 13 #[.string ⟨#[86, 97, 108, 117, 101, 69, 114, 114, 111, 114]⟩] W fun e W' => e = .returned (.string ⟨#[69, 120, 99, 101, 112, 116, 105, 111, 110]⟩) ∧ W' = W := by
  go_enter Tryd.func13, Tryd.ntmps13
  go_wp2
  go_ret
  exact ⟨rfl, rfl⟩
theorem rbase_9 (W : World) : Calls Tryd.prog 13 #[.string ⟨#[78, 97, 109, 101, 69, 114, 114, 111, 114]⟩] W fun e W' => e = .returned (.string ⟨#[69, 120, 99, 101, 112, 116, 105, 111, 110]⟩) ∧ W' = W := by
  go_enter Tryd.func13, Tryd.ntmps13
  go_wp2
  go_ret
  exact ⟨rfl, rfl⟩
theorem rbase_10 (W : World) : Calls Tryd.prog 13 #[.string ⟨#[85, 110, 98, 111, 117, 110, 100, 76, 111, 99, 97, 108, 69, 114, 114, 111, 114]⟩] W fun e W' => e = .returned (.string ⟨#[78, 97, 109, 101, 69, 114, 114, 111, 114]⟩) ∧ W' = W := by
  go_enter Tryd.func13, Tryd.ntmps13
  go_wp2
  go_ret
  exact ⟨rfl, rfl⟩
theorem rbase_11 (W : World) : Calls Tryd.prog 13 #[.string ⟨#[65, 116, 116, 114, 105, 98, 117, 116, 101, 69, 114, 114, 111, 114]⟩] W fun e W' => e = .returned (.string ⟨#[69, 120, 99, 101, 112, 116, 105, 111, 110]⟩) ∧ W' = W := by
  go_enter Tryd.func13, Tryd.ntmps13
  go_wp2
  go_ret
  exact ⟨rfl, rfl⟩
theorem rbase_12 (W : World) : Calls Tryd.prog 13 #[.string ⟨#[83, 116, 111, 112, 73, 116, 101, 114, 97, 116, 105, 111, 110]⟩] W fun e W' => e = .returned (.string ⟨#[69, 120, 99, 101, 112, 116, 105, 111, 110]⟩) ∧ W' = W := by
  go_enter Tryd.func13, Tryd.ntmps13
  go_wp2
  go_ret
  exact ⟨rfl, rfl⟩
theorem rbase_13 (W : World) : Calls Tryd.prog 13 #[.string ⟨#[82, 117, 110, 116, 105, 109, 101, 69, 114, 114, 111, 114]⟩] W fun e W' => e = .returned (.string ⟨#[69, 120, 99, 101, 112, 116, 105, 111, 110]⟩) ∧ W' = W := by
  go_enter Tryd.func13, Tryd.ntmps13
  go_wp2
  go_ret
  exact ⟨rfl, rfl⟩
theorem rbase_14 (W : World) : Calls Tryd.prog 13 #[.string ⟨#[82, 101, 99, 117, 114, 115, 105, 111, 110, 69, 114, 114, 111, 114]⟩] W fun e W' => e = .returned (.string ⟨#[82, 117, 110, 116, 105, 109, 101, 69, 114, 114, 111, 114]⟩) ∧ W' = W := by
  go_enter Tryd.func13, Tryd.ntmps13
  go_wp2
  go_ret
  exact ⟨rfl, rfl⟩
theorem rbase_15 (W : World) : Calls Tryd.prog 13 #[.string ⟨#[65, 115, 115, 101, 114, 116, 105, 111, 110, 69, 114, 114, 111, 114]⟩] W fun e W' => e = .returned (.string ⟨#[69, 120, 99, 101, 112, 116, 105, 111, 110]⟩) ∧ W' = W := by
  go_enter Tryd.func13, Tryd.ntmps13
  go_wp2
  go_ret
  exact ⟨rfl, rfl⟩
theorem rbase_16 (W : World) : Calls Tryd.prog 13 #[.string ⟨#[77, 101, 109, 111, 114, 121, 69, 114, 114, 111, 114]⟩] W fun e W' => e = .returned (.string ⟨#[69, 120, 99, 101, 112, 116, 105, 111, 110]⟩) ∧ W' = W := by
  go_enter Tryd.func13, Tryd.ntmps13
  go_wp2
  go_ret
  exact ⟨rfl, rfl⟩
theorem rbase_none (W : World) (s : ByteArray) (h : ∀ j, j < 17 → nameF j ≠ s) : Calls Tryd.prog 13 #[.string s] W fun e W' => e = .returned (.string ⟨#[]⟩) ∧ W' = W := by
  have h1 : (s.toList == (⟨#[76, 111, 111, 107, 117, 112, 69, 114, 114, 111, 114]⟩ : ByteArray).toList) = false := by rw [beq_eq_false_iff_ne]; exact fun e => h 1 (by omega) (ba_eq e.symm)
  rw [show (⟨#[76, 111, 111, 107, 117, 112, 69, 114, 114, 111, 114]⟩ : ByteArray).toList = [76, 111, 111, 107, 117, 112, 69, 114, 114, 111, 114] by simp [go_sem]] at h1
  have h2 : (s.toList == (⟨#[73, 110, 100, 101, 120, 69, 114, 114, 111, 114]⟩ : ByteArray).toList) = false := by rw [beq_eq_false_iff_ne]; exact fun e => h 2 (by omega) (ba_eq e.symm)
  rw [show (⟨#[73, 110, 100, 101, 120, 69, 114, 114, 111, 114]⟩ : ByteArray).toList = [73, 110, 100, 101, 120, 69, 114, 114, 111, 114] by simp [go_sem]] at h2
  have h3 : (s.toList == (⟨#[75, 101, 121, 69, 114, 114, 111, 114]⟩ : ByteArray).toList) = false := by rw [beq_eq_false_iff_ne]; exact fun e => h 3 (by omega) (ba_eq e.symm)
  rw [show (⟨#[75, 101, 121, 69, 114, 114, 111, 114]⟩ : ByteArray).toList = [75, 101, 121, 69, 114, 114, 111, 114] by simp [go_sem]] at h3
  have h4 : (s.toList == (⟨#[65, 114, 105, 116, 104, 109, 101, 116, 105, 99, 69, 114, 114, 111, 114]⟩ : ByteArray).toList) = false := by rw [beq_eq_false_iff_ne]; exact fun e => h 4 (by omega) (ba_eq e.symm)
  rw [show (⟨#[65, 114, 105, 116, 104, 109, 101, 116, 105, 99, 69, 114, 114, 111, 114]⟩ : ByteArray).toList = [65, 114, 105, 116, 104, 109, 101, 116, 105, 99, 69, 114, 114, 111, 114] by simp [go_sem]] at h4
  have h5 : (s.toList == (⟨#[90, 101, 114, 111, 68, 105, 118, 105, 115, 105, 111, 110, 69, 114, 114, 111, 114]⟩ : ByteArray).toList) = false := by rw [beq_eq_false_iff_ne]; exact fun e => h 5 (by omega) (ba_eq e.symm)
  rw [show (⟨#[90, 101, 114, 111, 68, 105, 118, 105, 115, 105, 111, 110, 69, 114, 114, 111, 114]⟩ : ByteArray).toList = [90, 101, 114, 111, 68, 105, 118, 105, 115, 105, 111, 110, 69, 114, 114, 111, 114] by simp [go_sem]] at h5
  have h6 : (s.toList == (⟨#[79, 118, 101, 114, 102, 108, 111, 119, 69, 114, 114, 111, 114]⟩ : ByteArray).toList) = false := by rw [beq_eq_false_iff_ne]; exact fun e => h 6 (by omega) (ba_eq e.symm)
  rw [show (⟨#[79, 118, 101, 114, 102, 108, 111, 119, 69, 114, 114, 111, 114]⟩ : ByteArray).toList = [79, 118, 101, 114, 102, 108, 111, 119, 69, 114, 114, 111, 114] by simp [go_sem]] at h6
  have h7 : (s.toList == (⟨#[84, 121, 112, 101, 69, 114, 114, 111, 114]⟩ : ByteArray).toList) = false := by rw [beq_eq_false_iff_ne]; exact fun e => h 7 (by omega) (ba_eq e.symm)
  rw [show (⟨#[84, 121, 112, 101, 69, 114, 114, 111, 114]⟩ : ByteArray).toList = [84, 121, 112, 101, 69, 114, 114, 111, 114] by simp [go_sem]] at h7
  have h8 : (s.toList == (⟨#[86, 97, 108, 117, 101, 69, 114, 114, 111, 114]⟩ : ByteArray).toList) = false := by rw [beq_eq_false_iff_ne]; exact fun e => h 8 (by omega) (ba_eq e.symm)
  rw [show (⟨#[86, 97, 108, 117, 101, 69, 114, 114, 111, 114]⟩ : ByteArray).toList = [86, 97, 108, 117, 101, 69, 114, 114, 111, 114] by simp [go_sem]] at h8
  have h9 : (s.toList == (⟨#[78, 97, 109, 101, 69, 114, 114, 111, 114]⟩ : ByteArray).toList) = false := by rw [beq_eq_false_iff_ne]; exact fun e => h 9 (by omega) (ba_eq e.symm)
  rw [show (⟨#[78, 97, 109, 101, 69, 114, 114, 111, 114]⟩ : ByteArray).toList = [78, 97, 109, 101, 69, 114, 114, 111, 114] by simp [go_sem]] at h9
  have h10 : (s.toList == (⟨#[85, 110, 98, 111, 117, 110, 100, 76, 111, 99, 97, 108, 69, 114, 114, 111, 114]⟩ : ByteArray).toList) = false := by rw [beq_eq_false_iff_ne]; exact fun e => h 10 (by omega) (ba_eq e.symm)
  rw [show (⟨#[85, 110, 98, 111, 117, 110, 100, 76, 111, 99, 97, 108, 69, 114, 114, 111, 114]⟩ : ByteArray).toList = [85, 110, 98, 111, 117, 110, 100, 76, 111, 99, 97, 108, 69, 114, 114, 111, 114] by simp [go_sem]] at h10
  have h11 : (s.toList == (⟨#[65, 116, 116, 114, 105, 98, 117, 116, 101, 69, 114, 114, 111, 114]⟩ : ByteArray).toList) = false := by rw [beq_eq_false_iff_ne]; exact fun e => h 11 (by omega) (ba_eq e.symm)
  rw [show (⟨#[65, 116, 116, 114, 105, 98, 117, 116, 101, 69, 114, 114, 111, 114]⟩ : ByteArray).toList = [65, 116, 116, 114, 105, 98, 117, 116, 101, 69, 114, 114, 111, 114] by simp [go_sem]] at h11
  have h12 : (s.toList == (⟨#[83, 116, 111, 112, 73, 116, 101, 114, 97, 116, 105, 111, 110]⟩ : ByteArray).toList) = false := by rw [beq_eq_false_iff_ne]; exact fun e => h 12 (by omega) (ba_eq e.symm)
  rw [show (⟨#[83, 116, 111, 112, 73, 116, 101, 114, 97, 116, 105, 111, 110]⟩ : ByteArray).toList = [83, 116, 111, 112, 73, 116, 101, 114, 97, 116, 105, 111, 110] by simp [go_sem]] at h12
  have h13 : (s.toList == (⟨#[82, 117, 110, 116, 105, 109, 101, 69, 114, 114, 111, 114]⟩ : ByteArray).toList) = false := by rw [beq_eq_false_iff_ne]; exact fun e => h 13 (by omega) (ba_eq e.symm)
  rw [show (⟨#[82, 117, 110, 116, 105, 109, 101, 69, 114, 114, 111, 114]⟩ : ByteArray).toList = [82, 117, 110, 116, 105, 109, 101, 69, 114, 114, 111, 114] by simp [go_sem]] at h13
  have h14 : (s.toList == (⟨#[82, 101, 99, 117, 114, 115, 105, 111, 110, 69, 114, 114, 111, 114]⟩ : ByteArray).toList) = false := by rw [beq_eq_false_iff_ne]; exact fun e => h 14 (by omega) (ba_eq e.symm)
  rw [show (⟨#[82, 101, 99, 117, 114, 115, 105, 111, 110, 69, 114, 114, 111, 114]⟩ : ByteArray).toList = [82, 101, 99, 117, 114, 115, 105, 111, 110, 69, 114, 114, 111, 114] by simp [go_sem]] at h14
  have h15 : (s.toList == (⟨#[65, 115, 115, 101, 114, 116, 105, 111, 110, 69, 114, 114, 111, 114]⟩ : ByteArray).toList) = false := by rw [beq_eq_false_iff_ne]; exact fun e => h 15 (by omega) (ba_eq e.symm)
  rw [show (⟨#[65, 115, 115, 101, 114, 116, 105, 111, 110, 69, 114, 114, 111, 114]⟩ : ByteArray).toList = [65, 115, 115, 101, 114, 116, 105, 111, 110, 69, 114, 114, 111, 114] by simp [go_sem]] at h15
  have h16 : (s.toList == (⟨#[77, 101, 109, 111, 114, 121, 69, 114, 114, 111, 114]⟩ : ByteArray).toList) = false := by rw [beq_eq_false_iff_ne]; exact fun e => h 16 (by omega) (ba_eq e.symm)
  rw [show (⟨#[77, 101, 109, 111, 114, 121, 69, 114, 114, 111, 114]⟩ : ByteArray).toList = [77, 101, 109, 111, 114, 121, 69, 114, 114, 111, 114] by simp [go_sem]] at h16
  clear h
  go_enter Tryd.func13, Tryd.ntmps13
  go_wp2
  go_ret
  exact ⟨rfl, rfl⟩
theorem rbase_ok (W : World) (s : ByteArray) : Calls Tryd.prog 13 #[.string s] W fun e W' => e = .returned (.string (baseS s)) ∧ W' = W := by
  by_cases h : ∃ k, k < 17 ∧ nameF k = s
  · obtain ⟨k, hk, rfl⟩ := h
    rw [baseS_some hk rfl]
    have hh : k = 0 ∨ k = 1 ∨ k = 2 ∨ k = 3 ∨ k = 4 ∨ k = 5 ∨ k = 6 ∨ k = 7 ∨ k = 8 ∨ k = 9 ∨ k = 10 ∨ k = 11 ∨ k = 12 ∨ k = 13 ∨ k = 14 ∨ k = 15 ∨ k = 16 := by omega
    rcases hh with rfl | rfl | rfl | rfl | rfl | rfl | rfl | rfl | rfl | rfl | rfl | rfl | rfl | rfl | rfl | rfl | rfl
    · exact rbase_0 W
    · exact rbase_1 W
    · exact rbase_2 W
    · exact rbase_3 W
    · exact rbase_4 W
    · exact rbase_5 W
    · exact rbase_6 W
    · exact rbase_7 W
    · exact rbase_8 W
    · exact rbase_9 W
    · exact rbase_10 W
    · exact rbase_11 W
    · exact rbase_12 W
    · exact rbase_13 W
    · exact rbase_14 W
    · exact rbase_15 W
    · exact rbase_16 W
  · have hn : ∀ j, j < 17 → nameF j ≠ s := fun j hj e => h ⟨j, hj, e⟩
    rw [baseS_none hn]
    exact rbase_none W s hn
end Go.Proofs.YtobcnffjfclolaaDoor
/- ch 15: chain. -/
namespace Go.Proofs.YtobcnffjfclolaaDoor
set_option linter.unusedSimpArgs false
open Go.RowKit
set_option linter.unusedVariables false
def chainL (i : Nat) : List Nat := i :: ancF i
def chainN (i t : Nat) : ByteArray := match (chainL i)[t]? with | some j => nameF j | none => ⟨#[]⟩
theorem chain_next : ∀ i, i < 17 → ∀ t, t < (chainL i).length → baseS (chainN i t) = chainN i (t + 1) := by decide +kernel
theorem chain_len : ∀ i, i < 17 → (chainL i).length ≤ 3 := by decide +kernel
theorem chain_lt : ∀ i, i < 17 → ∀ j ∈ chainL i, j < 17 := by decide +kernel
theorem chain_no : ∀ i, i < 17 → ∀ t, t < (chainL i).length → (chainN i t).size ≠ 0 := by decide +kernel
section
variable {w W : World} {Rs : List Res}
set_option maxRecDepth 100000 in
theorem chain_ok (S : Sep w Rs W) (hG : GlobF w) (i k : Nat) (hi : i < 17) (hk : k < 17) :
    Calls Tryd.prog 20 #[.string (nameF i), .string (nameF k)] W fun e W' => e = .returned (.bool (decide (k ∈ i :: ancF i))) ∧ Sep w Rs W' := by
  have HG := Lib.hid hG
  have HS := Lib.hid S
  have HI := Lib.hid (And.intro hi hk)
  have h0 : nameF i = chainN i 0 := rfl
  rw [h0]
  clear S hG hi hk h0
  go_enter Tryd.func20, Tryd.ntmps20
  go_wp2_with fail
  go_loopw [0, 5] (fun nv iv wr => ∃ t : Nat, t ≤ (chainL i).length ∧ nv = .string (chainN i t) ∧ iv = .int .i64 t ∧ (∀ u, u < t → (chainL i)[u]? ≠ some k) ∧ Sep w Rs wr) (fun _ iv _ => 20 - (intOf iv).toNat)
  case atStart => exact ⟨0, by omega, rfl, rfl, fun u hu => by omega, HS.out⟩
  case round =>
    clear HS
    obtain ⟨t, ht, rfl, rfl, hno, S⟩ := hrel
    have hl := chain_len i HI.out.1
    have ht20 : (t : Int) < 20 := by omega
    have HT := Lib.hid (And.intro ht hno)
    by_cases hlt : t < (chainL i).length
    · have hne : (chainN i t).toList.isEmpty = false := by
        rw [Bool.eq_false_iff]
        intro e
        rw [List.isEmpty_iff] at e
        have e2 : chainN i t = ⟨#[]⟩ := ba_eq (by rw [e]; simp [go_sem])
        exact chain_no i HI.out.1 t hlt (by rw [e2]; rfl)
      have hj : (chainL i)[t]? = some ((chainL i)[t]) := List.getElem?_eq_getElem hlt
      have hc : chainN i t = nameF ((chainL i)[t]) := by unfold chainN; rw [hj]
      by_cases e : (chainL i)[t] = k
      · have heq : ((chainN i t).toList == (nameF k).toList) = true := by rw [hc, e]; simp
        have hm : decide (k ∈ i :: ancF i) = true := by
          rw [decide_eq_true_eq, ← e]
          exact List.getElem_mem hlt
        have HM := Lib.hid hm
        have HS := Lib.hid S
        clear S hno ht hm hc hj e hl hlt
        go_wp2
        go_ret
        rw [HM.out]
        exact ⟨rfl, HS.out⟩
      · have heq : ((chainN i t).toList == (nameF k).toList) = false := by
          rw [beq_eq_false_iff_ne]
          intro h
          rw [hc] at h
          exact e (nameF_inj _ (chain_lt i HI.out.1 _ (List.getElem_mem hlt)) k HI.out.2 (ba_eq h))
        have M := fbase_ok S HG.out (chainN i t)
        rw [chain_next i HI.out.1 t hlt] at M
        have hn2 : ∀ u, u < t + 1 → (chainL i)[u]? ≠ some k := fun u hu => by
          by_cases eu : u = t
          · subst eu; rw [hj]; intro h; exact e (Option.some.inj h)
          · exact HT.out.2 u (by omega)
        have HN := Lib.hid (And.intro hlt hn2)
        replace M := Lib.hid M
        clear S hno ht hc hj e hlt hn2
        go_wp2_with fail
        refine M.out.mono ?_
        rintro e w2 ⟨rfl, S⟩
        have HS := Lib.hid S
        clear M S heq hne
        go_wp2
        exact ⟨⟨t + 1, by have := HN.out.1; omega, rfl, by go_num, HN.out.2, HS.out⟩, by simp [intOf]; omega⟩
    · obtain rfl : t = (chainL i).length := by omega
      have hz : chainN i (chainL i).length = ⟨#[]⟩ := by unfold chainN; rw [List.getElem?_eq_none (Nat.le_refl _)]
      rw [hz]
      have hm : decide (k ∈ i :: ancF i) = false := by
        rw [decide_eq_false_iff_not]
        intro h
        obtain ⟨u, hu, e⟩ := List.getElem_of_mem (show k ∈ chainL i from h)
        exact hno u hu (by rw [List.getElem?_eq_getElem hu, e])
      have HM := Lib.hid hm
      have HS := Lib.hid S
      clear S hno ht hm hz hl hlt
      go_wp2
      go_ret
      rw [HM.out]
      exact ⟨rfl, HS.out⟩
end
end Go.Proofs.YtobcnffjfclolaaDoor
