import Derived.Test.YtijlebhoapdfnaaGreatTellB
import Derived.Laws.EntriesVeiled
/- ch 16: tell. -/
set_option maxRecDepth 100000
set_option maxHeartbeats 12800000
namespace Go.Proofs.YtijlebhoapdfnaaGreat
set_option linter.unusedSimpArgs false
open Go.RowKit
set_option linter.unusedVariables false
section
variable {w W : World} {Rs : List Res} {t h f : Nat} {H : HeapM} {T : TelM} {P : V → Prop}
theorem Sep.telName (S : Sep w (tellR t h T :: Rs) W) : ∃ p vq : Value, W.heap[t]? = some (_root_.Go.Proofs.YtijlebhoapdfnaaGreat.telB h p vq T.fell.name) ∧ ∀ (T' : TelM), T'.out = T.out → Sep w (tellR t h T' :: Rs) (W.setCell ⟨t, 3, none⟩ (.string T'.fell.name)) := by
 obtain ⟨p, vq, q1, q2, q3, q4⟩ := S.telB 0 rfl
 refine ⟨p, vq, q2, fun T' hT => ?_⟩
 refine q4 _ T' p vq q1 (by rw [heap_setCell_same q2]; rfl) ?_ ((Outside.refl _ _).setCell (.inl (by simp)) _) (fun g hg => .inl hg)
 rw [hT]
 exact ownsRow_block q3 fun g hg => Below.heap_setCell _ _ _ _ (show g ≠ t from fun e => ownsRow_ne q3 q2 (by decide) (e ▸ hg))
theorem tell_ok {N : Nat} (G : H.Good N) (hN : N ≤ 4000000)
  (PL : ∀ v, P v → H.wholeB v = false → (H.plainL v).length ≤ 1000000 ∧ ∀ {Rs : List Res} {W : World} {T : TelM}, Sep w (tellR t h T :: Rs) W → (∃ i : Nat, Rs[i]? = some (heapR h H)) → Calls Tryz.prog 166 #[.pointer (some ⟨t, 0, none⟩), .agg #[.int .i64 v.kind, .int .i64 v.n, .string v.s]] W fun e W' => e = .returned (.string ⟨(H.plainL v).toArray⟩) ∧ Sep w (tellR t h T :: Rs) W')
  (PI : ∀ v x, P v → x ∈ H.items v → P x) (PK : ∀ v p, P v → p ∈ H.pairs v → P p.1 ∧ P ((H.get v p.1).getD V.zero)) :
  ∀ (f : Nat) {Rs : List Res} {W : World} {T : TelM} (S : Sep w (tellR t h T :: Rs) W) (i : Nat) (hi : Rs[i]? = some (heapR h H)) (hT : T.out.length ≤ 65536) (v : V) (hv : P v) (d : Int) (hd : d + f = 30) (hd0 : 0 ≤ d),
   Calls Tryz.prog 124 #[.pointer (some ⟨t, 0, none⟩), .agg #[.int .i64 v.kind, .int .i64 v.n, .string v.s], .int .i64 d] W fun e W' => e = .returned (.tuple #[]) ∧ Sep w (tellR t h (H.tellF f v T) :: Rs) W' := by
 intro f
 induction f with
 | zero =>
  intro Rs W T S i hi hT v hv d hd hd0
  have hd1 : d = 30 := by omega
  subst hd1
  have SF : H.tellF 0 v T = H.tellT v T ⟨T.out, .deep⟩ := rfl
  obtain ⟨b, hb⟩ : ∃ gx_, (W.heap.size) = gx_ := ⟨_, rfl⟩
  have S1 := (((S.alloc (.cells #[.pointer (some ⟨t, 0, none⟩)] 138)).alloc (.cells #[.int .i64 v.kind, .int .i64 v.n, .string v.s] 24)).alloc (.cells #[.int .i64 30] 3))
  simp only [World.size_alloc, hb] at S1
  replace S1 : Sep w (tellR t h T :: inB (b + 1 + 1) 30 :: boxV (b + 1) v :: ptB b t :: Rs) _ := Sep.front (A := [inB (b + 1 + 1) 30, boxV (b + 1) v, ptB b t]) S1
  have HV := Lib.hid (And.intro hi (And.intro hv hT))
  have HF := Lib.hid SF
  have FR : Hid (∀ W' T', Sep w (tellR t h T' :: inB (b + 1 + 1) 30 :: boxV (b + 1) v :: ptB b t :: Rs) W' → Sep w (tellR t h T' :: Rs) W') := Lib.hid fun W' T' S => S.sub (.cons_cons _ (.cons _ (.cons _ (.cons _ (List.Sublist.refl _)))))
  obtain ⟨p, vq, q1, q2, q3, q4⟩ := S1.telB 0 rfl
  have cT := cellAt (S1.box (b := b) 3 rfl) 0 (v := .pointer (some ⟨t, 0, none⟩)) rfl
  replace S1 := Lib.hid S1
  clear S hi hv hT SF q1 q3 q4
  cases hfl : T.fell with
  | memory =>
   rw [hfl] at q2
   have c2 := cellAt q2 3 (v := .string memoryError) rfl
   have DN : Hid (H.tellF 0 v T = T) := Lib.hid (HeapM.tellF_fell (by rw [hfl]; intro hh; cases hh))
   clear hfl q2
   go_enter Tryz.func124, Tryz.ntmps124
   try simp only [World.size_alloc, hb]
   go_wp2
   first | go_end0 | go_returns
   rw [DN.out]
   exact ⟨rfl, FR.out _ _ S1.out⟩
  | deep =>
   rw [hfl] at q2
   have c2 := cellAt q2 3 (v := .string recursionError) rfl
   have DN : Hid (H.tellF 0 v T = T) := Lib.hid (HeapM.tellF_fell (by rw [hfl]; intro hh; cases hh))
   clear hfl q2
   go_enter Tryz.func124, Tryz.ntmps124
   try simp only [World.size_alloc, hb]
   go_wp2
   first | go_end0 | go_returns
   rw [DN.out]
   exact ⟨rfl, FR.out _ _ S1.out⟩
  | no =>
   rw [hfl] at q2
   have c2 := cellAt q2 3 (v := .string ⟨#[]⟩) rfl
   have HFL := Lib.hid hfl
   obtain ⟨r, hr⟩ : ∃ r, H.wholeB v = r := ⟨_, rfl⟩
   have HR := Lib.hid hr
   have KF : Hid (∀ W, Sep w (tellR t h T :: inB (b + 1 + 1) 30 :: boxV (b + 1) v :: ptB b t :: Rs) W → W.cell? ⟨b, 0, none⟩ = some (.pointer (some ⟨t, 0, none⟩)) ∧ W.cell? ⟨t, 0, none⟩ = some (.pointer (some ⟨h, 0, none⟩)) ∧ W.cell? ⟨b + 1, 0, none⟩ = some (.int .i64 v.kind) ∧ W.cell? ⟨b + 1, 1, none⟩ = some (.int .i64 v.n) ∧ W.cell? ⟨b + 1, 2, none⟩ = some (.string v.s)) := Lib.hid fun W S => by
    obtain ⟨p, vq, _, e2, _⟩ := S.telB 0 rfl
    obtain ⟨a1, a2, a3⟩ := wpVal v (S.box (b := b + 1) 2 rfl)
    exact ⟨cellAt (S.box (b := b) 3 rfl) 0 rfl, cellAt e2 0 rfl, a1, a2, a3⟩
   have KW : Hid (∀ W, Sep w (tellR t h T :: inB (b + 1 + 1) 30 :: boxV (b + 1) v :: ptB b t :: Rs) W → Calls Tryz.prog 64 #[.pointer (some ⟨h, 0, none⟩), .agg #[.int .i64 v.kind, .int .i64 v.n, .string v.s]] W fun e W' => e = .returned (.bool r) ∧ Sep w (tellR t h T :: inB (b + 1 + 1) 30 :: boxV (b + 1) v :: ptB b t :: Rs) W') := Lib.hid fun W S => whole_ok S (i + 4) (by simpa using HV.out.1) v r HR.out
   clear hfl q2 hr
   go_enter Tryz.func124, Tryz.ntmps124
   go_upto_region 2 with fail
   try simp only [World.size_alloc, hb]
   clear cT c2
   cases r with
   | false =>
    refine wp_region_sep (by kernel_rfl) (by kernel_rfl) (S1.out) ?_
    repeat (first | go_big_quiet_skip | (go_big_quiet_want; apply Exists.intro; refine ⟨fun Wq hWq => ?_, ?_⟩; (focus (have dq := KF.out Wq hWq; obtain ⟨dq0, dq1, dq2, dq3, dq4⟩ := dq; go_simp; first | done | rfl | exact ⟨rfl, rfl⟩ | (with_reducible (exact KW.out _ hWq)))); go_big_quiet_on; simp only [Act.put, List.setIfInBounds_toArray, List.set_cons_zero, List.set_cons_succ]))
    refine wpQuiet_nil ?_
    intro wq hq
    have HP := Lib.hid (PL v HV.out.2.1 HR.out)
    have KP : Hid (∀ W, Sep w (tellR t h T :: inB (b + 1 + 1) 30 :: boxV (b + 1) v :: ptB b t :: Rs) W → Calls Tryz.prog 166 #[.pointer (some ⟨t, 0, none⟩), .agg #[.int .i64 v.kind, .int .i64 v.n, .string v.s]] W fun e W' => e = .returned (.string ⟨(H.plainL v).toArray⟩) ∧ Sep w (tellR t h T :: inB (b + 1 + 1) 30 :: boxV (b + 1) v :: ptB b t :: Rs) W') := Lib.hid fun W S => HP.out.2 S ⟨i + 3, by simpa using HV.out.1⟩
    have KS : Hid (∀ W, Sep w (tellR t h T :: inB (b + 1 + 1) 30 :: boxV (b + 1) v :: ptB b t :: Rs) W → Calls Tryz.prog 165 #[.pointer (some ⟨t, 0, none⟩), .string ⟨(H.plainL v).toArray⟩] W fun e W' => e = .returned (.tuple #[]) ∧ Sep w (tellR t h (T.say (H.plainL v)) :: inB (b + 1 + 1) 30 :: boxV (b + 1) v :: ptB b t :: Rs) W') := Lib.hid fun W S => by
     have := say_ok S 0 rfl ⟨(H.plainL v).toArray⟩ (by have := HP.out.1; simpa [ByteArray.size] using this) HV.out.2.2
     simpa using this
    have DN : Hid (H.tellF 0 v T = T.say (H.plainL v)) := Lib.hid (by rw [HF.out]; unfold HeapM.tellT; rw [HFL.out]; simp only; rw [if_pos HR.out])
    have KF2 : Hid (∀ (T' : TelM) W (Q : List Res), Sep w (tellR t h T' :: inB (b + 1 + 1) 30 :: boxV (b + 1) v :: ptB b t :: Rs) W → W.cell? ⟨b, 0, none⟩ = some (.pointer (some ⟨t, 0, none⟩)) ∧ W.cell? ⟨b + 1, 0, none⟩ = some (.int .i64 v.kind) ∧ W.cell? ⟨b + 1, 1, none⟩ = some (.int .i64 v.n) ∧ W.cell? ⟨b + 1, 2, none⟩ = some (.string v.s)) := Lib.hid fun T' W Q S => by
     obtain ⟨a1, a2, a3⟩ := wpVal v (S.box (b := b + 1) 2 rfl)
     exact ⟨cellAt (S.box (b := b) 3 rfl) 0 rfl, a1, a2, a3⟩
    go_upto_region 3 with fail
    have T0 := hq.drew
    clear hq
    refine wp_region_held_drew (S := fun W => W.cell? ⟨b, 0, none⟩ = some (.pointer (some ⟨t, 0, none⟩)) ∧ W.cell? ⟨b + 1, 0, none⟩ = some (.int .i64 v.kind) ∧ W.cell? ⟨b + 1, 1, none⟩ = some (.int .i64 v.n) ∧ W.cell? ⟨b + 1, 2, none⟩ = some (.string v.s)) (by kernel_rfl) (KF2.out _ _ [] T0) (fun hH => ?_)
    refine takeT 0 hH (hy := .inl ⟨by rfl, by (intro w hSw; try obtain ⟨u0, u1, u2, u3⟩ := hSw); (go_simp; try rfl)⟩) (h := ?_)
    simp only [pu]
    refine takeT 1 hH (hy := .inl ⟨by rfl, by (intro w hSw; try obtain ⟨u0, u1, u2, u3⟩ := hSw); (go_simp; try rfl)⟩) (h := ?_)
    simp only [pu]
    refine takeT 2 hH (hy := .inl ⟨by rfl, by (intro w hSw; try obtain ⟨u0, u1, u2, u3⟩ := hSw); (go_simp; try rfl)⟩) (h := ?_)
    simp only [pu]
    refine readyT [3] ?_
    refine consT (fun K hK => ?_) AllReadyH.nil
    go_simp
    go_wp2_with (go_at_call 166; refine (KP.out _ T0).mono ?_; rintro e w1 ⟨rfl, T1⟩)
    clear hH
    refine hK.out _ _ (KF2.out _ _ [] T1) (fun hH => ?_)
    clear hK K
    refine readyT [4] ?_
    refine consT (fun K hK => ?_) AllReadyH.nil
    go_simp
    go_wp2_with (go_at_call 165; refine (KS.out _ T1).mono ?_; rintro e w2 ⟨rfl, T2⟩)
    clear hH
    refine hK.out _ _ (KF2.out _ _ [] T2) (fun hH => ?_)
    clear hK K
    refine wpAnyH_done (by kernel_rfl) ?_ _
    as_aux_lemma =>
     have HS := Lib.hid (FR.out _ _ T2)
     go_wp2_with fail
     first | go_end0 | go_returns
     rw [DN.out]
     exact ⟨rfl, HS.out⟩
   | true =>
    refine wp_region_sep (by kernel_rfl) (by kernel_rfl) (S1.out) ?_
    repeat (first | go_big_quiet_skip | (go_big_quiet_want; apply Exists.intro; refine ⟨fun Wq hWq => ?_, ?_⟩; (focus (have dq := KF.out Wq hWq; obtain ⟨dq0, dq1, dq2, dq3, dq4⟩ := dq; go_simp; first | done | rfl | exact ⟨rfl, rfl⟩ | (with_reducible (exact KW.out _ hWq)))); go_big_quiet_on; simp only [Act.put, List.setIfInBounds_toArray, List.set_cons_zero, List.set_cons_succ]))
    refine wpQuiet_nil ?_
    intro wq hq
    have c5 := cellAt (hq.box (b := b + 1 + 1) 1 rfl) 0 (v := .int .i64 30) rfl
    have c6 := cellAt (hq.box (b := b) 3 rfl) 0 (v := .pointer (some ⟨t, 0, none⟩)) rfl
    obtain ⟨p, vq, q2, q4⟩ := hq.telName
    rw [HFL.out] at q2
    have c7 := cellAt q2 3 (v := .string ⟨#[]⟩) rfl
    have c8 := frozenAt q2 3
    have HS : Hid (Sep w (tellR t h ⟨T.out, .deep⟩ :: Rs) (wq.setCell ⟨t, 3, none⟩ (.string recursionError))) := Lib.hid (FR.out _ _ (q4 ⟨T.out, .deep⟩ rfl))
    have DN : Hid (H.tellF 0 v T = ⟨T.out, .deep⟩) := Lib.hid (by rw [HF.out]; unfold HeapM.tellT; rw [HFL.out]; simp only; rw [if_neg (by rw [HR.out]; simp)])
    clear hq q2 q4 S1 KF KW
    go_wp2
    first | go_end0 | go_returns
    rw [DN.out]
    exact ⟨rfl, HS.out⟩
 | succ f IH =>
  intro Rs W T S i hi hT v hv d hd hd0
  have hd1 : d < 30 := by omega
  have hd2 : d + 1 + (f : Int) = 30 := by omega
  have hd3 : 0 ≤ d + 1 := by omega
  have SF : H.tellF (f + 1) v T = H.tellT v T (if H.kind v = 1 then rowF [91] [93] ((H.items v).map fun x => H.tellF f x) T
   else if H.kind v = 2 then rowF [40] (if (H.items v).length = 1 then [44, 41] else [41]) ((H.items v).map fun x => H.tellF f x) T
   else rowF [123] [125] ((H.pairs v).map fun p => fun t => H.tellF f ((H.get v p.1).getD V.zero) ((H.tellF f p.1 t).say [58, 32])) T) := rfl
  obtain ⟨b, hb⟩ : ∃ gx_, (W.heap.size) = gx_ := ⟨_, rfl⟩
  have S1 := (((S.alloc (.cells #[.pointer (some ⟨t, 0, none⟩)] 138)).alloc (.cells #[.int .i64 v.kind, .int .i64 v.n, .string v.s] 24)).alloc (.cells #[.int .i64 d] 3))
  simp only [World.size_alloc, hb] at S1
  replace S1 : Sep w (tellR t h T :: inB (b + 1 + 1) d :: boxV (b + 1) v :: ptB b t :: Rs) _ := Sep.front (A := [inB (b + 1 + 1) d, boxV (b + 1) v, ptB b t]) S1
  have HV := Lib.hid (And.intro hi (And.intro hv hT))
  have HF := Lib.hid SF
  have FR : Hid (∀ W' T', Sep w (tellR t h T' :: inB (b + 1 + 1) d :: boxV (b + 1) v :: ptB b t :: Rs) W' → Sep w (tellR t h T' :: Rs) W') := Lib.hid fun W' T' S => S.sub (.cons_cons _ (.cons _ (.cons _ (.cons _ (List.Sublist.refl _)))))
  obtain ⟨p, vq, q1, q2, q3, q4⟩ := S1.telB 0 rfl
  have cT := cellAt (S1.box (b := b) 3 rfl) 0 (v := .pointer (some ⟨t, 0, none⟩)) rfl
  replace S1 := Lib.hid S1
  clear S hi hv hT SF q1 q3 q4
  cases hfl : T.fell with
  | memory =>
   rw [hfl] at q2
   have c2 := cellAt q2 3 (v := .string memoryError) rfl
   have DN : Hid (H.tellF (f + 1) v T = T) := Lib.hid (HeapM.tellF_fell (by rw [hfl]; intro hh; cases hh))
   clear hfl q2
   go_enter Tryz.func124, Tryz.ntmps124
   try simp only [World.size_alloc, hb]
   go_wp2
   first | go_end0 | go_returns
   rw [DN.out]
   exact ⟨rfl, FR.out _ _ S1.out⟩
  | deep =>
   rw [hfl] at q2
   have c2 := cellAt q2 3 (v := .string recursionError) rfl
   have DN : Hid (H.tellF (f + 1) v T = T) := Lib.hid (HeapM.tellF_fell (by rw [hfl]; intro hh; cases hh))
   clear hfl q2
   go_enter Tryz.func124, Tryz.ntmps124
   try simp only [World.size_alloc, hb]
   go_wp2
   first | go_end0 | go_returns
   rw [DN.out]
   exact ⟨rfl, FR.out _ _ S1.out⟩
  | no =>
   rw [hfl] at q2
   have c2 := cellAt q2 3 (v := .string ⟨#[]⟩) rfl
   have HFL := Lib.hid hfl
   obtain ⟨r, hr⟩ : ∃ r, H.wholeB v = r := ⟨_, rfl⟩
   have HR := Lib.hid hr
   have KF : Hid (∀ W, Sep w (tellR t h T :: inB (b + 1 + 1) d :: boxV (b + 1) v :: ptB b t :: Rs) W → W.cell? ⟨b, 0, none⟩ = some (.pointer (some ⟨t, 0, none⟩)) ∧ W.cell? ⟨t, 0, none⟩ = some (.pointer (some ⟨h, 0, none⟩)) ∧ W.cell? ⟨b + 1, 0, none⟩ = some (.int .i64 v.kind) ∧ W.cell? ⟨b + 1, 1, none⟩ = some (.int .i64 v.n) ∧ W.cell? ⟨b + 1, 2, none⟩ = some (.string v.s)) := Lib.hid fun W S => by
    obtain ⟨p, vq, _, e2, _⟩ := S.telB 0 rfl
    obtain ⟨a1, a2, a3⟩ := wpVal v (S.box (b := b + 1) 2 rfl)
    exact ⟨cellAt (S.box (b := b) 3 rfl) 0 rfl, cellAt e2 0 rfl, a1, a2, a3⟩
   have KW : Hid (∀ W, Sep w (tellR t h T :: inB (b + 1 + 1) d :: boxV (b + 1) v :: ptB b t :: Rs) W → Calls Tryz.prog 64 #[.pointer (some ⟨h, 0, none⟩), .agg #[.int .i64 v.kind, .int .i64 v.n, .string v.s]] W fun e W' => e = .returned (.bool r) ∧ Sep w (tellR t h T :: inB (b + 1 + 1) d :: boxV (b + 1) v :: ptB b t :: Rs) W') := Lib.hid fun W S => whole_ok S (i + 4) (by simpa using HV.out.1) v r HR.out
   clear hfl q2 hr
   go_enter Tryz.func124, Tryz.ntmps124
   go_upto_region 2 with fail
   try simp only [World.size_alloc, hb]
   clear cT c2
   cases r with
   | false =>
    refine wp_region_sep (by kernel_rfl) (by kernel_rfl) (S1.out) ?_
    repeat (first | go_big_quiet_skip | (go_big_quiet_want; apply Exists.intro; refine ⟨fun Wq hWq => ?_, ?_⟩; (focus (have dq := KF.out Wq hWq; obtain ⟨dq0, dq1, dq2, dq3, dq4⟩ := dq; go_simp; first | done | rfl | exact ⟨rfl, rfl⟩ | (with_reducible (exact KW.out _ hWq)))); go_big_quiet_on; simp only [Act.put, List.setIfInBounds_toArray, List.set_cons_zero, List.set_cons_succ]))
    refine wpQuiet_nil ?_
    intro wq hq
    have HP := Lib.hid (PL v HV.out.2.1 HR.out)
    have KP : Hid (∀ W, Sep w (tellR t h T :: inB (b + 1 + 1) d :: boxV (b + 1) v :: ptB b t :: Rs) W → Calls Tryz.prog 166 #[.pointer (some ⟨t, 0, none⟩), .agg #[.int .i64 v.kind, .int .i64 v.n, .string v.s]] W fun e W' => e = .returned (.string ⟨(H.plainL v).toArray⟩) ∧ Sep w (tellR t h T :: inB (b + 1 + 1) d :: boxV (b + 1) v :: ptB b t :: Rs) W') := Lib.hid fun W S => HP.out.2 S ⟨i + 3, by simpa using HV.out.1⟩
    have KS : Hid (∀ W, Sep w (tellR t h T :: inB (b + 1 + 1) d :: boxV (b + 1) v :: ptB b t :: Rs) W → Calls Tryz.prog 165 #[.pointer (some ⟨t, 0, none⟩), .string ⟨(H.plainL v).toArray⟩] W fun e W' => e = .returned (.tuple #[]) ∧ Sep w (tellR t h (T.say (H.plainL v)) :: inB (b + 1 + 1) d :: boxV (b + 1) v :: ptB b t :: Rs) W') := Lib.hid fun W S => by
     have := say_ok S 0 rfl ⟨(H.plainL v).toArray⟩ (by have := HP.out.1; simpa [ByteArray.size] using this) HV.out.2.2
     simpa using this
    have DN : Hid (H.tellF (f + 1) v T = T.say (H.plainL v)) := Lib.hid (by rw [HF.out]; unfold HeapM.tellT; rw [HFL.out]; simp only; rw [if_pos HR.out])
    have KF2 : Hid (∀ (T' : TelM) W (Q : List Res), Sep w (tellR t h T' :: inB (b + 1 + 1) d :: boxV (b + 1) v :: ptB b t :: Rs) W → W.cell? ⟨b, 0, none⟩ = some (.pointer (some ⟨t, 0, none⟩)) ∧ W.cell? ⟨b + 1, 0, none⟩ = some (.int .i64 v.kind) ∧ W.cell? ⟨b + 1, 1, none⟩ = some (.int .i64 v.n) ∧ W.cell? ⟨b + 1, 2, none⟩ = some (.string v.s)) := Lib.hid fun T' W Q S => by
     obtain ⟨a1, a2, a3⟩ := wpVal v (S.box (b := b + 1) 2 rfl)
     exact ⟨cellAt (S.box (b := b) 3 rfl) 0 rfl, a1, a2, a3⟩
    go_upto_region 3 with fail
    have T0 := hq.drew
    clear hq
    refine wp_region_held_drew (S := fun W => W.cell? ⟨b, 0, none⟩ = some (.pointer (some ⟨t, 0, none⟩)) ∧ W.cell? ⟨b + 1, 0, none⟩ = some (.int .i64 v.kind) ∧ W.cell? ⟨b + 1, 1, none⟩ = some (.int .i64 v.n) ∧ W.cell? ⟨b + 1, 2, none⟩ = some (.string v.s)) (by kernel_rfl) (KF2.out _ _ [] T0) (fun hH => ?_)
    refine takeT 0 hH (hy := .inl ⟨by rfl, by (intro w hSw; try obtain ⟨u0, u1, u2, u3⟩ := hSw); (go_simp; try rfl)⟩) (h := ?_)
    simp only [pu]
    refine takeT 1 hH (hy := .inl ⟨by rfl, by (intro w hSw; try obtain ⟨u0, u1, u2, u3⟩ := hSw); (go_simp; try rfl)⟩) (h := ?_)
    simp only [pu]
    refine takeT 2 hH (hy := .inl ⟨by rfl, by (intro w hSw; try obtain ⟨u0, u1, u2, u3⟩ := hSw); (go_simp; try rfl)⟩) (h := ?_)
    simp only [pu]
    refine readyT [3] ?_
    refine consT (fun K hK => ?_) AllReadyH.nil
    go_simp
    go_wp2_with (go_at_call 166; refine (KP.out _ T0).mono ?_; rintro e w1 ⟨rfl, T1⟩)
    clear hH
    refine hK.out _ _ (KF2.out _ _ [] T1) (fun hH => ?_)
    clear hK K
    refine readyT [4] ?_
    refine consT (fun K hK => ?_) AllReadyH.nil
    go_simp
    go_wp2_with (go_at_call 165; refine (KS.out _ T1).mono ?_; rintro e w2 ⟨rfl, T2⟩)
    clear hH
    refine hK.out _ _ (KF2.out _ _ [] T2) (fun hH => ?_)
    clear hK K
    refine wpAnyH_done (by kernel_rfl) ?_ _
    as_aux_lemma =>
     have HS := Lib.hid (FR.out _ _ T2)
     go_wp2_with fail
     first | go_end0 | go_returns
     rw [DN.out]
     exact ⟨rfl, HS.out⟩
   | true =>
    refine wp_region_sep (by kernel_rfl) (by kernel_rfl) (S1.out) ?_
    repeat (first | go_big_quiet_skip | (go_big_quiet_want; apply Exists.intro; refine ⟨fun Wq hWq => ?_, ?_⟩; (focus (have dq := KF.out Wq hWq; obtain ⟨dq0, dq1, dq2, dq3, dq4⟩ := dq; go_simp; first | done | rfl | exact ⟨rfl, rfl⟩ | (with_reducible (exact KW.out _ hWq)))); go_big_quiet_on; simp only [Act.put, List.setIfInBounds_toArray, List.set_cons_zero, List.set_cons_succ]))
    refine wpQuiet_nil ?_
    intro wq hq
    have c5 := cellAt (hq.box (b := b + 1 + 1) 1 rfl) 0 (v := .int .i64 d) rfl
    have DN : Hid (H.tellF (f + 1) v T = if H.kind v = 1 then rowF [91] [93] ((H.items v).map fun x => H.tellF f x) T
     else if H.kind v = 2 then rowF [40] (if (H.items v).length = 1 then [44, 41] else [41]) ((H.items v).map fun x => H.tellF f x) T
     else rowF [123] [125] ((H.pairs v).map fun p => fun t => H.tellF f ((H.get v p.1).getD V.zero) ((H.tellF f p.1 t).say [58, 32])) T) := Lib.hid (by rw [HF.out]; unfold HeapM.tellT; rw [HFL.out]; simp only; rw [if_neg (by rw [HR.out]; simp)])
    obtain ⟨XS, hXS⟩ : ∃ l, H.items v = l := ⟨_, rfl⟩
    obtain ⟨kd, hkd⟩ : ∃ k, H.kind v = k := ⟨_, rfl⟩
    have HX := Lib.hid (And.intro hXS hkd)
    refine named (tellR t h T :: inB (b + 1 + 1) d :: boxV (b + 1) v :: ptB b t :: Rs) fun baseA hbaseA => ?_
    have HbaseA := Lib.hid hbaseA
    have KB : Hid (∀ W (Q : List Res), Sep w (Q ++ baseA) W → W.cell? ⟨b, 0, none⟩ = some (.pointer (some ⟨t, 0, none⟩)) ∧ W.cell? ⟨t, 0, none⟩ = some (.pointer (some ⟨h, 0, none⟩)) ∧ W.cell? ⟨b + 1, 0, none⟩ = some (.int .i64 v.kind) ∧ W.cell? ⟨b + 1, 1, none⟩ = some (.int .i64 v.n) ∧ W.cell? ⟨b + 1, 2, none⟩ = some (.string v.s)) := Lib.hid fun W Q S => by
     rw [hbaseA] at S
     have hj : ∀ {j : Nat} {R : Res}, (tellR t h T :: inB (b + 1 + 1) d :: boxV (b + 1) v :: ptB b t :: Rs)[j]? = some R → (Q ++ tellR t h T :: inB (b + 1 + 1) d :: boxV (b + 1) v :: ptB b t :: Rs)[Q.length + j]? = some R := fun hh => by rw [List.getElem?_append_right (by omega), Nat.add_sub_cancel_left]; exact hh
     obtain ⟨p, vq, _, e2, _⟩ := S.telB (Q.length + 0) (hj rfl)
     obtain ⟨a1, a2, a3⟩ := wpVal v (S.box (b := b + 1) (Q.length + 2) (hj rfl))
     exact ⟨cellAt (S.box (b := b) (Q.length + 3) (hj rfl)) 0 rfl, cellAt e2 0 rfl, a1, a2, a3⟩
    have KI : Hid (∀ W (Q : List Res), Sep w (Q ++ baseA) W → Calls Tryz.prog 78 #[.pointer (some ⟨h, 0, none⟩), .agg #[.int .i64 v.kind, .int .i64 v.n, .string v.s]] W fun e W' => ∃ a c, e = .returned (.slice a XS.length c) ∧ Sep w (valsR (.slice a XS.length c) XS :: (Q ++ baseA)) W') := Lib.hid fun W Q S => by
     rw [hbaseA] at S ⊢
     exact items_at S (Q.length + (i + 4)) (by rw [List.getElem?_append_right (by omega), Nat.add_sub_cancel_left]; simpa using HV.out.1) G hN v XS hXS
    replace hq : Hid (Sep w ([] ++ baseA) wq.drew) := Lib.hid (by rw [hbaseA]; exact hq.drew)
    clear hbaseA hXS hkd S1 KW KF
    go_upto_region 6 with fail
    clear c5
    go_cut [6] (fun s6 wx => ∃ q6 la lc, s6 = .pointer (some ⟨q6, 0, none⟩) ∧ Sep w (slV q6 (.slice la XS.length lc) :: valsR (.slice la XS.length lc) XS :: baseA) wx)
    case first =>
     have T0 := hq.out
     clear hq
     refine wp_region_held_drew (S := fun W => W.cell? ⟨b, 0, none⟩ = some (.pointer (some ⟨t, 0, none⟩)) ∧ W.cell? ⟨t, 0, none⟩ = some (.pointer (some ⟨h, 0, none⟩)) ∧ W.cell? ⟨b + 1, 0, none⟩ = some (.int .i64 v.kind) ∧ W.cell? ⟨b + 1, 1, none⟩ = some (.int .i64 v.n) ∧ W.cell? ⟨b + 1, 2, none⟩ = some (.string v.s)) (by kernel_rfl) (KB.out _ [] T0) (fun hH => ?_)
     refine takeT 0 hH (hy := .inl ⟨by rfl, by (intro w hSw; try obtain ⟨u0, u1, u2, u3, u4⟩ := hSw); (go_simp; try rfl)⟩) (h := ?_)
     simp only [pu]
     refine takeT 1 hH (hy := .inl ⟨by rfl, by (intro w hSw; try obtain ⟨u0, u1, u2, u3, u4⟩ := hSw); (go_simp; try rfl)⟩) (h := ?_)
     simp only [pu]
     refine takeT 2 hH (hy := .inl ⟨by rfl, by (intro w hSw; try obtain ⟨u0, u1, u2, u3, u4⟩ := hSw); (go_simp; try rfl)⟩) (h := ?_)
     simp only [pu]
     refine takeT 3 hH (hy := .inl ⟨by rfl, by (intro w hSw; try obtain ⟨u0, u1, u2, u3, u4⟩ := hSw); (go_simp; try rfl)⟩) (h := ?_)
     simp only [pu]
     refine takeT 4 hH (hy := .inl ⟨by rfl, by (intro w hSw; try obtain ⟨u0, u1, u2, u3, u4⟩ := hSw); (go_simp; try rfl)⟩) (h := ?_)
     simp only [pu]
     refine readyT [5, 6] ?_
     refine consT (fun K hK => ?_) (consT (fun K hK => ?_) AllReadyH.nil)
     ·
      go_simp
      go_wp2_with (go_at_call 78; refine (KI.out _ [] T0).mono ?_; rintro e w1 ⟨la, lc, rfl, T1⟩)
      clear hH
      refine hK.out _ _ (KB.out _ [_] T1) (fun hH => ?_)
      clear hK K
      refine readyT [6] ?_
      refine consT (fun K hK => ?_) AllReadyH.nil
      go_simp
      have T2 : Sep w ([boxR _ (.cells #[.slice none 0 0] 56), valsR (.slice la XS.length lc) XS] ++ baseA) _ := Sep.alloc T1 (.cells #[.slice none 0 0] 56)
      try simp only [size_drew, World.size_alloc] at T2
      clear hH
      refine hK.out _ _ (KB.out _ [_, _] T2) (fun hH => ?_)
      clear hK K
      refine readyT [7] ?_
      refine consT (fun K hK => ?_) AllReadyH.nil
      have hz := T2.box 0 rfl
      have z0 := cellAt hz 0 (v := .slice none 0 0) rfl
      have z1 := frozenAt hz 0
      try simp only [World.cell?_drew, World.frozen?_drew] at z0 z1
      go_simp
      clear hz z0 z1
      clear hH
      first | (have T3 : Sep w ([boxR _ (.cells #[.slice la XS.length lc] 56), valsR (.slice la XS.length lc) XS] ++ baseA) _ := (Sep.alloc T1 (.cells #[.slice la XS.length lc] 56)); (try simp only [size_drew, World.size_alloc] at T3); refine hK.out _ _ (KB.out _ [_, _] T3) (fun hH => ?_)) | (have T3 : Sep w ([boxR _ (.cells #[.slice la XS.length lc] 56), valsR (.slice la XS.length lc) XS] ++ baseA) _ := (Sep.setBox (cs := #[.slice none 0 0]) (t := 56) T2 0 rfl 0 (.slice la XS.length lc)); (try simp only [size_drew, World.size_alloc] at T3); refine hK.out _ _ (KB.out _ [_, _] T3) (fun hH => ?_))
      clear hK K
      refine wpAnyH_done (by kernel_rfl) ?_ _
      as_aux_lemma =>
       go_wp2_with fail
       go_meet
       first | exact ⟨_, la, lc, rfl, T3⟩ | exact ⟨_, la, lc, rfl, Sep.swap T3⟩
     ·
      go_simp
      have T4 : Sep w ([boxR _ (.cells #[.slice none 0 0] 56)] ++ baseA) _ := Sep.alloc T0 (.cells #[.slice none 0 0] 56)
      try simp only [size_drew, World.size_alloc] at T4
      clear hH
      refine hK.out _ _ (KB.out _ [_] T4) (fun hH => ?_)
      clear hK K
      refine readyT [5] ?_
      refine consT (fun K hK => ?_) AllReadyH.nil
      go_simp
      go_wp2_with (go_at_call 78; refine (KI.out _ [_] T4).mono ?_; rintro e w5 ⟨la, lc, rfl, T5⟩)
      clear hH
      refine hK.out _ _ (KB.out _ [_, _] T5) (fun hH => ?_)
      clear hK K
      refine readyT [7] ?_
      refine consT (fun K hK => ?_) AllReadyH.nil
      have hz := T5.box 1 rfl
      have z0 := cellAt hz 0 (v := .slice none 0 0) rfl
      have z1 := frozenAt hz 0
      try simp only [World.cell?_drew, World.frozen?_drew] at z0 z1
      go_simp
      clear hz z0 z1
      clear hH
      have T6 : Sep w ([valsR (.slice la XS.length lc) XS, boxR _ (.cells #[.slice la XS.length lc] 56)] ++ baseA) _ := (Sep.setBox (cs := #[.slice none 0 0]) (t := 56) T5 1 rfl 0 (.slice la XS.length lc))
      try simp only [size_drew, World.size_alloc] at T6
      refine hK.out _ _ (KB.out _ [_, _] T6) (fun hH => ?_)
      clear hK K
      refine wpAnyH_done (by kernel_rfl) ?_ _
      as_aux_lemma =>
       go_wp2_with fail
       go_meet
       first | exact ⟨_, la, lc, rfl, T6⟩ | exact ⟨_, la, lc, rfl, Sep.swap T6⟩
    case rest =>
     obtain ⟨q6, la, lc, rfl, S⟩ := hcut
     rw [HbaseA.out] at S
     clear KB KI HbaseA
     replace S : Sep w (tellR t h T :: slV q6 (.slice la XS.length lc) :: valsR (.slice la XS.length lc) XS :: inB (b + 1 + 1) d :: boxV (b + 1) v :: ptB b t :: Rs) _ := Sep.front (A := [slV q6 (.slice la XS.length lc), valsR (.slice la XS.length lc) XS]) S
     obtain ⟨q7, hq7⟩ : ∃ gx_, (wc.heap.size) = gx_ := ⟨_, rfl⟩
     have S2 := S.alloc (.cells #[.func (.func 167) #[] #[.pointer (some ⟨b, 0, none⟩), .pointer (some ⟨q6, 0, none⟩), .pointer (some ⟨b + 1 + 1, 0, none⟩)]] 125)
     rw [hq7] at S2
     replace S2 : Sep w (tellR t h T :: fnB q7 (.func (.func 167) #[] #[.pointer (some ⟨b, 0, none⟩), .pointer (some ⟨q6, 0, none⟩), .pointer (some ⟨b + 1 + 1, 0, none⟩)]) :: slV q6 (.slice la XS.length lc) :: valsR (.slice la XS.length lc) XS :: inB (b + 1 + 1) d :: boxV (b + 1) v :: ptB b t :: Rs) _ := S2.swap
     have KF : Hid (∀ W, Sep w (tellR t h T :: fnB q7 (.func (.func 167) #[] #[.pointer (some ⟨b, 0, none⟩), .pointer (some ⟨q6, 0, none⟩), .pointer (some ⟨b + 1 + 1, 0, none⟩)]) :: slV q6 (.slice la XS.length lc) :: valsR (.slice la XS.length lc) XS :: inB (b + 1 + 1) d :: boxV (b + 1) v :: ptB b t :: Rs) W → W.cell? ⟨b, 0, none⟩ = some (.pointer (some ⟨t, 0, none⟩)) ∧ W.cell? ⟨t, 0, none⟩ = some (.pointer (some ⟨h, 0, none⟩)) ∧ W.cell? ⟨b + 1, 0, none⟩ = some (.int .i64 v.kind) ∧ W.cell? ⟨b + 1, 1, none⟩ = some (.int .i64 v.n) ∧ W.cell? ⟨b + 1, 2, none⟩ = some (.string v.s)) := Lib.hid fun W S => by
      obtain ⟨p, vq, _, e2, _⟩ := S.telB 0 rfl
      obtain ⟨a1, a2, a3⟩ := wpVal v (S.box (b := b + 1) 5 rfl)
      exact ⟨cellAt (S.box (b := b) 6 rfl) 0 rfl, cellAt e2 0 rfl, a1, a2, a3⟩
     have KK : Hid (∀ W, Sep w (tellR t h T :: fnB q7 (.func (.func 167) #[] #[.pointer (some ⟨b, 0, none⟩), .pointer (some ⟨q6, 0, none⟩), .pointer (some ⟨b + 1 + 1, 0, none⟩)]) :: slV q6 (.slice la XS.length lc) :: valsR (.slice la XS.length lc) XS :: inB (b + 1 + 1) d :: boxV (b + 1) v :: ptB b t :: Rs) W → Calls Tryz.prog 72 #[.pointer (some ⟨h, 0, none⟩), .agg #[.int .i64 v.kind, .int .i64 v.n, .string v.s]] W fun e W' => e = .returned (.int .i64 kd) ∧ Sep w (tellR t h T :: fnB q7 (.func (.func 167) #[] #[.pointer (some ⟨b, 0, none⟩), .pointer (some ⟨q6, 0, none⟩), .pointer (some ⟨b + 1 + 1, 0, none⟩)]) :: slV q6 (.slice la XS.length lc) :: valsR (.slice la XS.length lc) XS :: inB (b + 1 + 1) d :: boxV (b + 1) v :: ptB b t :: Rs) W') := Lib.hid fun W S => kind_at S (i + 7) (by simpa using HV.out.1) v kd HX.out.2
     have S3 := Lib.hid S2
     have bq6 := cellAt (S.box (b := q6) 1 rfl) 0 (v := .slice la XS.length lc) rfl
     have HQ7 := Lib.hid hq7
     clear S S2 bq6 hq7
     go_upto_region 8 with fail
     try simp only [HQ7.out]
     clear HQ7
     refine wp_region_sep (by kernel_rfl) (by kernel_rfl) (S3.out) ?_
     repeat (first | go_big_quiet_skip | (go_big_quiet_want; apply Exists.intro; refine ⟨fun Wq hWq => ?_, ?_⟩; (focus (have dq := KF.out Wq hWq; obtain ⟨dq0, dq1, dq2, dq3, dq4⟩ := dq; go_simp; first | done | rfl | exact ⟨rfl, rfl⟩ | (with_reducible (exact KK.out _ hWq)))); go_big_quiet_on; simp only [Act.put, List.setIfInBounds_toArray, List.set_cons_zero, List.set_cons_succ]))
     refine wpQuiet_nil ?_
     intro wq hq
     replace hq := Lib.hid hq
     clear S3 KK
     have FR3 : Hid (∀ W' T', Sep w (tellR t h T' :: fnB q7 (.func (.func 167) #[] #[.pointer (some ⟨b, 0, none⟩), .pointer (some ⟨q6, 0, none⟩), .pointer (some ⟨b + 1 + 1, 0, none⟩)]) :: slV q6 (.slice la XS.length lc) :: valsR (.slice la XS.length lc) XS :: inB (b + 1 + 1) d :: boxV (b + 1) v :: ptB b t :: Rs) W' → Sep w (tellR t h T' :: Rs) W') := Lib.hid fun W' T' S => FR.out _ _ (S.sub (.cons_cons _ (.cons _ (.cons _ (.cons _ (List.Sublist.refl _))))))
     have KR1 : Hid (∀ (sg : ByteArray) (hs1 : 1 ≤ sg.size) (hs2 : sg.size ≤ 10) (oc cc : List UInt8) (hoc : (sg.extract 0 1).data.toList = oc) (hcc : (sg.extract 1 sg.size).data.toList = cc) (W : World), Sep w (tellR t h T :: fnB q7 (.func (.func 167) #[] #[.pointer (some ⟨b, 0, none⟩), .pointer (some ⟨q6, 0, none⟩), .pointer (some ⟨b + 1 + 1, 0, none⟩)]) :: slV q6 (.slice la XS.length lc) :: valsR (.slice la XS.length lc) XS :: inB (b + 1 + 1) d :: boxV (b + 1) v :: ptB b t :: Rs) W → Calls Tryz.prog 168 #[.pointer (some ⟨t, 0, none⟩), .string sg, .int .i64 XS.length, .func (.func 167) #[] #[.pointer (some ⟨b, 0, none⟩), .pointer (some ⟨q6, 0, none⟩), .pointer (some ⟨b + 1 + 1, 0, none⟩)]] W fun e W' => e = .returned (.tuple #[]) ∧ Sep w (tellR t h (rowF oc cc (XS.map fun x => H.tellF f x) T) :: fnB q7 (.func (.func 167) #[] #[.pointer (some ⟨b, 0, none⟩), .pointer (some ⟨q6, 0, none⟩), .pointer (some ⟨b + 1 + 1, 0, none⟩)]) :: slV q6 (.slice la XS.length lc) :: valsR (.slice la XS.length lc) XS :: inB (b + 1 + 1) d :: boxV (b + 1) v :: ptB b t :: Rs) W') := Lib.hid fun sg hs1 hs2 oc cc hoc hcc W S => by
      have hxl : XS.length ≤ 9223372036854775807 := by obtain ⟨_, _, e0, p1, p2, _⟩ := (S.row 3 rfl).sees'; cases e0; unfold maxLen at p2; omega
      have := row1_ok (.pointer (some ⟨b, 0, none⟩)) (.pointer (some ⟨q6, 0, none⟩)) (.pointer (some ⟨b + 1 + 1, 0, none⟩)) (XS.map fun x => H.tellF f x) (by rw [List.length_map]; exact hxl) (fun k p hp => by
       rw [List.getElem?_map] at hp
       obtain ⟨x, hx, rfl⟩ := Option.map_eq_some_iff.1 hp
       intro W T S hT
       exact tell1_ok IH (i + 6) (by simpa using HV.out.1) b (b + 1 + 1) q6 la lc XS d hd2 hd3 5 rfl 1 rfl 3 rfl 2 rfl k x hx (PI v x HV.out.2.1 (by rw [HX.out.1]; exact List.mem_of_getElem? hx)) S hT) (fun p hp T hT => by
        obtain ⟨x, _, rfl⟩ := List.mem_map.1 hp; exact HeapM.tellF_out f x T hT) (fun p hp T hT => by
        obtain ⟨x, _, rfl⟩ := List.mem_map.1 hp; exact HeapM.tellF_fell hT) sg hs1 hs2 oc cc hoc hcc S HV.out.2.2
      rw [List.length_map] at this
      exact this
     by_cases hk1 : kd = 1
     ·
      subst hk1
      have DN1 : Hid (H.tellF (f + 1) v T = rowF [91] [93] (XS.map fun x => H.tellF f x) T) := Lib.hid (by rw [DN.out, if_pos HX.out.2, HX.out.1])
      have e0 := cellAt (hq.out.box (b := b) 6 rfl) 0 (v := .pointer (some ⟨t, 0, none⟩)) rfl
      have e1 := cellAt (hq.out.box (b := q6) 2 rfl) 0 (v := .slice la XS.length lc) rfl
      have e2 := cellAt (hq.out.box (b := q7) 1 rfl) 0 (v := .func (.func 167) #[] #[.pointer (some ⟨b, 0, none⟩), .pointer (some ⟨q6, 0, none⟩), .pointer (some ⟨b + 1 + 1, 0, none⟩)]) rfl
      have M := Lib.hid (KR1.out ⟨#[91, 93]⟩ (by decide) (by decide) [91] [93] (by decide) (by decide) _ hq.out)
      clear hq
      go_wp2_with fail
      refine M.out.mono ?_
      rintro e w3 ⟨rfl, S⟩
      have HS := Lib.hid (FR3.out _ _ S)
      clear M S e0 e1 e2
      go_wp2
      first | go_end0 | go_returns
      rw [DN1.out]
      exact ⟨rfl, HS.out⟩
     ·
      have hk11 : (kd == 1) = false := by simp [hk1]
      by_cases hk2 : kd = 2
      ·
       subst hk2
       have e0 := cellAt (hq.out.box (b := b) 6 rfl) 0 (v := .pointer (some ⟨t, 0, none⟩)) rfl
       have e1 := cellAt (hq.out.box (b := q6) 2 rfl) 0 (v := .slice la XS.length lc) rfl
       have e2 := cellAt (hq.out.box (b := q7) 1 rfl) 0 (v := .func (.func 167) #[] #[.pointer (some ⟨b, 0, none⟩), .pointer (some ⟨q6, 0, none⟩), .pointer (some ⟨b + 1 + 1, 0, none⟩)]) rfl
       by_cases hl1 : XS.length = 1
       ·
        have hl2 := Lib.hid hl1
        have hl3 : ((XS.length : Int) == 1) = true := by simp [hl1]
        have DN1 : Hid (H.tellF (f + 1) v T = rowF [40] [44, 41] (XS.map fun x => H.tellF f x) T) := Lib.hid (by rw [DN.out, if_neg (by rw [HX.out.2]; decide), if_pos HX.out.2, HX.out.1, if_pos hl1])
        clear hl1
        have M := Lib.hid (KR1.out ⟨#[40, 44, 41]⟩ (by decide) (by decide) [40] [44, 41] (by decide) (by decide) _ hq.out)
        clear hq
        go_wp2_with fail
        refine M.out.mono ?_
        rintro e w3 ⟨rfl, S⟩
        have HS := Lib.hid (FR3.out _ _ S)
        clear M S e0 e1 e2
        go_wp2
        first | go_end0 | go_returns
        rw [DN1.out]
        exact ⟨rfl, HS.out⟩
       ·
        have hl2 : ¬ (XS.length : Int) = 1 := by omega
        have hl3 : ((XS.length : Int) == 1) = false := by simp; omega
        have DN1 : Hid (H.tellF (f + 1) v T = rowF [40] [41] (XS.map fun x => H.tellF f x) T) := Lib.hid (by rw [DN.out, if_neg (by rw [HX.out.2]; decide), if_pos HX.out.2, HX.out.1, if_neg hl1])
        clear hl1
        have M := Lib.hid (KR1.out ⟨#[40, 41]⟩ (by decide) (by decide) [40] [41] (by decide) (by decide) _ hq.out)
        clear hq
        go_wp2_with fail
        refine M.out.mono ?_
        rintro e w3 ⟨rfl, S⟩
        have HS := Lib.hid (FR3.out _ _ S)
        clear M S e0 e1 e2
        go_wp2
        first | go_end0 | go_returns
        rw [DN1.out]
        exact ⟨rfl, HS.out⟩
      ·
       have hk21 : (kd == 2) = false := by simp [hk2]
       obtain ⟨KS, hKS⟩ : ∃ l, (H.pairs v).map (·.1) = l := ⟨_, rfl⟩
       have DN1 : Hid (H.tellF (f + 1) v T = rowF [123] [125] ((H.pairs v).map fun p => fun t => H.tellF f ((H.get v p.1).getD V.zero) ((H.tellF f p.1 t).say [58, 32])) T) := Lib.hid (by rw [DN.out, if_neg (by rw [HX.out.2]; exact hk1), if_neg (by rw [HX.out.2]; exact hk2)])
       refine named (tellR t h T :: fnB q7 (.func (.func 167) #[] #[.pointer (some ⟨b, 0, none⟩), .pointer (some ⟨q6, 0, none⟩), .pointer (some ⟨b + 1 + 1, 0, none⟩)]) :: valsR (.slice la XS.length lc) XS :: inB (b + 1 + 1) d :: boxV (b + 1) v :: ptB b t :: Rs) fun baseB hbaseB => ?_
       have HbaseB := Lib.hid hbaseB
       have hjB : Hid (∀ (Q : List Res) {j : Nat} {R : Res}, (tellR t h T :: fnB q7 (.func (.func 167) #[] #[.pointer (some ⟨b, 0, none⟩), .pointer (some ⟨q6, 0, none⟩), .pointer (some ⟨b + 1 + 1, 0, none⟩)]) :: valsR (.slice la XS.length lc) XS :: inB (b + 1 + 1) d :: boxV (b + 1) v :: ptB b t :: Rs)[j]? = some R → (Q ++ tellR t h T :: fnB q7 (.func (.func 167) #[] #[.pointer (some ⟨b, 0, none⟩), .pointer (some ⟨q6, 0, none⟩), .pointer (some ⟨b + 1 + 1, 0, none⟩)]) :: valsR (.slice la XS.length lc) XS :: inB (b + 1 + 1) d :: boxV (b + 1) v :: ptB b t :: Rs)[Q.length + j]? = some R) := Lib.hid fun Q j R hh => by rw [List.getElem?_append_right (by omega), Nat.add_sub_cancel_left]; exact hh
       have KB : Hid (∀ W (Q : List Res), Sep w (Q ++ baseB) W → W.cell? ⟨b, 0, none⟩ = some (.pointer (some ⟨t, 0, none⟩)) ∧ W.cell? ⟨t, 0, none⟩ = some (.pointer (some ⟨h, 0, none⟩)) ∧ W.cell? ⟨b + 1, 0, none⟩ = some (.int .i64 v.kind) ∧ W.cell? ⟨b + 1, 1, none⟩ = some (.int .i64 v.n) ∧ W.cell? ⟨b + 1, 2, none⟩ = some (.string v.s)) := Lib.hid fun W Q S => by
        rw [hbaseB] at S
        obtain ⟨p, vq, _, e2, _⟩ := S.telB (Q.length + 0) (hjB.out Q rfl)
        obtain ⟨a1, a2, a3⟩ := wpVal v (S.box (b := b + 1) (Q.length + 4) (hjB.out Q rfl))
        exact ⟨cellAt (S.box (b := b) (Q.length + 5) (hjB.out Q rfl)) 0 rfl, cellAt e2 0 rfl, a1, a2, a3⟩
       have KY : Hid (∀ W (Q : List Res), Sep w (Q ++ baseB) W → Calls Tryz.prog 79 #[.pointer (some ⟨h, 0, none⟩), .agg #[.int .i64 v.kind, .int .i64 v.n, .string v.s]] W fun e W' => ∃ a c, e = .returned (.slice a KS.length c) ∧ Sep w (valsR (.slice a KS.length c) KS :: (Q ++ baseB)) W') := Lib.hid fun W Q S => by
        rw [hbaseB] at S ⊢
        exact keys_at S (Q.length + (i + 6)) (by rw [List.getElem?_append_right (by omega), Nat.add_sub_cancel_left]; simpa using HV.out.1) v KS hKS
       have KC : Hid (∀ (ka : Option Addr) (kc : Nat) W, Sep w ([valsR (.slice ka KS.length kc) KS, slV q6 (.slice ka KS.length kc)] ++ baseB) W → W.cell? ⟨b, 0, none⟩ = some (.pointer (some ⟨t, 0, none⟩)) ∧ W.cell? ⟨q6, 0, none⟩ = some (.slice ka KS.length kc)) := Lib.hid fun ka kc W S => by
        rw [hbaseB] at S
        exact ⟨cellAt (S.box (b := b) 7 rfl) 0 rfl, cellAt (S.box (b := q6) 1 rfl) 0 rfl⟩
       have K2R : Hid (∀ (ka : Option Addr) (kc : Nat) W, Sep w ([valsR (.slice ka KS.length kc) KS, slV q6 (.slice ka KS.length kc)] ++ baseB) W → Calls Tryz.prog 168 #[.pointer (some ⟨t, 0, none⟩), .string ⟨#[123, 125]⟩, .int .i64 KS.length, .func (.func 169) #[] #[.pointer (some ⟨b, 0, none⟩), .pointer (some ⟨b + 1, 0, none⟩), .pointer (some ⟨q6, 0, none⟩), .pointer (some ⟨q7, 0, none⟩), .pointer (some ⟨b + 1 + 1, 0, none⟩)]] W fun e W' => e = .returned (.tuple #[]) ∧ Sep w (tellR t h (rowF [123] [125] ((H.pairs v).map fun p => fun t => H.tellF f ((H.get v p.1).getD V.zero) ((H.tellF f p.1 t).say [58, 32])) T) :: Rs) W') := Lib.hid fun ka kc W S => by
        rw [hbaseB] at S
        have hxl : KS.length ≤ 9223372036854775807 := by obtain ⟨_, _, e0, p1, p2, _⟩ := (S.row 0 rfl).sees'; cases e0; unfold maxLen at p2; omega
        replace S : Sep w (tellR t h T :: ([valsR (.slice ka KS.length kc) KS, slV q6 (.slice ka KS.length kc)] ++ (fnB q7 (.func (.func 167) #[] #[.pointer (some ⟨b, 0, none⟩), .pointer (some ⟨q6, 0, none⟩), .pointer (some ⟨b + 1 + 1, 0, none⟩)]) :: valsR (.slice la XS.length lc) XS :: inB (b + 1 + 1) d :: boxV (b + 1) v :: ptB b t :: Rs))) W := Sep.front (A := [valsR (.slice ka KS.length kc) KS, slV q6 (.slice ka KS.length kc)]) S
        have hpl : ((H.pairs v).map fun p => fun t => H.tellF f ((H.get v p.1).getD V.zero) ((H.tellF f p.1 t).say [58, 32])).length = KS.length := by rw [List.length_map, ← hKS, List.length_map]
        have := row2_ok (.pointer (some ⟨b, 0, none⟩)) (.pointer (some ⟨b + 1, 0, none⟩)) (.pointer (some ⟨q6, 0, none⟩)) (.pointer (some ⟨q7, 0, none⟩)) (.pointer (some ⟨b + 1 + 1, 0, none⟩)) ((H.pairs v).map fun p => fun t => H.tellF f ((H.get v p.1).getD V.zero) ((H.tellF f p.1 t).say [58, 32])) (by rw [hpl]; exact hxl) (fun k p hp => by
         rw [List.getElem?_map] at hp
         obtain ⟨pr, hx, rfl⟩ := Option.map_eq_some_iff.1 hp
         intro W T S hT
         have hk := PK v pr HV.out.2.1 (List.mem_of_getElem? hx)
         exact tell2_ok IH (i + 7) (by simpa using HV.out.1) b (b + 1) (b + 1 + 1) q6 q7 v ka kc KS d hd2 hd3 6 rfl 1 rfl 4 rfl 0 rfl 5 rfl 2 rfl k pr.1 _ (by rw [← hKS, List.getElem?_map, hx]; rfl) hk.1 rfl hk.2 S hT) (fun p hp T hT => by
          obtain ⟨x, _, rfl⟩ := List.mem_map.1 hp; exact HeapM.tellF_out f _ _ (TelM.say_out _ (HeapM.tellF_out f _ _ hT))) (fun p hp T hT => by
          obtain ⟨x, _, rfl⟩ := List.mem_map.1 hp
          show H.tellF f _ ((H.tellF f _ T).say [58, 32]) = T
          rw [HeapM.tellF_fell hT, TelM.say_fell hT, HeapM.tellF_fell hT]) ⟨#[123, 125]⟩ (by decide) (by decide) [123] [125] (by decide) (by decide) S HV.out.2.2
        rw [hpl] at this
        exact this.mono fun e W' ⟨z1, z2⟩ => ⟨z1, FR.out _ _ (z2.sub (.cons_cons _ (.cons _ (.cons _ (.cons _ (.cons _ (List.Sublist.refl _)))))))⟩
       have T0 : Sep w ([slV q6 (.slice la XS.length lc)] ++ baseB) wq.drew := by
        rw [hbaseB]
        exact (hq.out.perm ((List.Perm.cons _ (List.Perm.swap _ _ _)).trans (List.Perm.swap _ _ _))).drew
       clear hq hbaseB hKS KR1 FR3
       go_upto_region 9 with fail
       refine wp_region_held_drew (S := fun W => W.cell? ⟨b, 0, none⟩ = some (.pointer (some ⟨t, 0, none⟩)) ∧ W.cell? ⟨t, 0, none⟩ = some (.pointer (some ⟨h, 0, none⟩)) ∧ W.cell? ⟨b + 1, 0, none⟩ = some (.int .i64 v.kind) ∧ W.cell? ⟨b + 1, 1, none⟩ = some (.int .i64 v.n) ∧ W.cell? ⟨b + 1, 2, none⟩ = some (.string v.s)) (by kernel_rfl) (KB.out _ [_] T0) (fun hH => ?_)
       refine takeT 0 hH (hy := .inl ⟨by rfl, by (intro w hSw; try obtain ⟨u0, u1, u2, u3, u4⟩ := hSw); (go_simp; try rfl)⟩) (h := ?_)
       simp only [pu]
       refine takeT 1 hH (hy := .inl ⟨by rfl, by (intro w hSw; try obtain ⟨u0, u1, u2, u3, u4⟩ := hSw); (go_simp; try rfl)⟩) (h := ?_)
       simp only [pu]
       refine takeT 2 hH (hy := .inl ⟨by rfl, by (intro w hSw; try obtain ⟨u0, u1, u2, u3, u4⟩ := hSw); (go_simp; try rfl)⟩) (h := ?_)
       simp only [pu]
       refine takeT 3 hH (hy := .inl ⟨by rfl, by (intro w hSw; try obtain ⟨u0, u1, u2, u3, u4⟩ := hSw); (go_simp; try rfl)⟩) (h := ?_)
       simp only [pu]
       refine takeT 4 hH (hy := .inl ⟨by rfl, by (intro w hSw; try obtain ⟨u0, u1, u2, u3, u4⟩ := hSw); (go_simp; try rfl)⟩) (h := ?_)
       simp only [pu]
       refine readyT [5] ?_
       refine consT (fun K hK => ?_) AllReadyH.nil
       go_simp
       go_wp2_with (go_at_call 79; refine (KY.out _ [_] T0).mono ?_; rintro e w1 ⟨ka, kc, rfl, T1⟩)
       clear hH
       refine hK.out _ _ (KB.out _ [_, _] T1) (fun hH => ?_)
       clear hK K
       refine readyT [6] ?_
       refine consT (fun K hK => ?_) AllReadyH.nil
       have hz := T1.box 1 rfl
       have z0 := cellAt hz 0 (v := .slice la XS.length lc) rfl
       have z1 := frozenAt hz 0
       try simp only [World.cell?_drew, World.frozen?_drew] at z0 z1
       go_simp
       clear hz z0 z1
       clear hH
       have T2 : Sep w ([valsR (.slice ka KS.length kc) KS, boxR _ (.cells #[.slice ka KS.length kc] 56)] ++ baseB) _ := (Sep.setBox (cs := #[.slice la XS.length lc]) (t := 56) T1 1 rfl 0 (.slice ka KS.length kc))
       try simp only [size_drew, World.size_alloc] at T2
       refine hK.out _ _ (KB.out _ [_, _] T2) (fun hH => ?_)
       clear hK K
       refine wpAnyH_done (by kernel_rfl) ?_ _
       as_aux_lemma =>
        have hz1 := KC.out _ _ _ T2
        obtain ⟨e0, e1⟩ := hz1
        have M := Lib.hid (K2R.out _ _ _ T2)
        clear KB KY KC K2R
        go_wp2_with fail
        refine M.out.mono ?_
        rintro e w9 ⟨rfl, S⟩
        have HS := Lib.hid S
        clear M S e0 e1
        go_wp2
        first | go_end0 | go_returns
        rw [DN1.out]
        exact ⟨rfl, HS.out⟩
end
end Go.Proofs.YtijlebhoapdfnaaGreat
/- ch 16: Repr, Str. -/
namespace Go.Proofs.YtijlebhoapdfnaaGreat
set_option linter.unusedSimpArgs false
open Go.RowKit
set_option linter.unusedVariables false
section
variable {w W : World} {Rs : List Res} {h : Nat} {H : HeapM} {P : V → Prop}
/-- What plain must tell of. -/
def PlainAt (w : World) (h : Nat) (H : HeapM) (P : V → Prop) : Prop := ∀ t v, P v → H.wholeB v = false → (H.plainL v).length ≤ 1000000 ∧ ∀ {Rs : List Res} {W : World} {T : TelM}, Sep w (tellR t h T :: Rs) W → (∃ i : Nat, Rs[i]? = some (heapR h H)) → Calls Tryz.prog 166 #[.pointer (some ⟨t, 0, none⟩), .agg #[.int .i64 v.kind, .int .i64 v.n, .string v.s]] W fun e W' => e = .returned (.string ⟨(H.plainL v).toArray⟩) ∧ Sep w (tellR t h T :: Rs) W'
theorem HeapM.plainL_len (H : HeapM) (v : V) (hk : v.kind = 0 ∨ v.kind = 1 ∨ v.kind = 2 ∨ v.kind = 3) (hs : v.s.size ≤ 100000) : (H.plainL v).length ≤ 1000000 := by
 rcases hk with e | e | e | e
 ·
  unfold HeapM.plainL; rw [if_pos e]; decide
 ·
  unfold HeapM.plainL; rw [if_neg (by omega), if_pos e]; split <;> decide
 ·
  unfold HeapM.plainL
  rw [if_neg (by omega), if_neg (by omega), if_pos e]
  obtain ⟨h1, h2⟩ := okI_range v.hn
  have := digitsU_len 18 v.n.natAbs (by omega)
  unfold textN
  rw [List.length_append]
  split <;> simp <;> omega
 ·
  unfold HeapM.plainL
  rw [if_neg (by omega), if_neg (by omega), if_neg (by omega), if_pos e]
  have := quote_len v.s.data.toList
  have h3 : v.s.data.toList.length = v.s.size := rfl
  unfold quoteL
  simp only [List.length_cons, List.length_append, List.length_nil]
  omega
/-- None, bools, ints and short strs are told by themselves. -/
theorem plainAt (hP : ∀ v, P v → H.wholeB v = false → (v.kind = 0 ∨ v.kind = 1 ∨ v.kind = 2 ∨ v.kind = 3) ∧ v.s.size ≤ 100000) : PlainAt w h H P := fun t v hv hw =>
 ⟨H.plainL_len v (hP v hv hw).1 (hP v hv hw).2, fun S _ => plain_ok S v (hP v hv hw).1 (hP v hv hw).2⟩
theorem tellMade (S : Sep w Rs W) : Sep w (tellR W.heap.size h ⟨[], .no⟩ :: Rs) (W.alloc (telB h (.pointer none) (.slice none 0 0) ⟨#[]⟩)) :=
 S.add (belowAlloc W _) (G := [W.heap.size]) ⟨.pointer none, .slice none 0 0, .inl rfl, heapAllocNew W _, World.ownsRow_nil _ _ _ _, rfl⟩ (by simp) (by simp)
theorem telString {t : Nat} {T : TelM} (S : Sep w (tellR t h T :: Rs) W) : Calls Tryz.prog 125 #[.pointer (some ⟨t, 1, none⟩)] W fun e W' => e = .returned (.string ⟨T.out.toArray⟩) ∧ Sep w Rs W' := by
 obtain ⟨p, vq, q1, q2, q3, -⟩ := S.telB 0 rfl
 exact (tb_string t h p vq T.fell.name T.out q2 q3).mono fun e W' ⟨e1, e2⟩ => ⟨e1, S.telGone 0 rfl q2 e2⟩
theorem repr_ok {N : Nat} (G : H.Good N) (hN : N ≤ 4000000) (PL : PlainAt w h H P) (PI : ∀ v x, P v → x ∈ H.items v → P x) (PK : ∀ v p, P v → p ∈ H.pairs v → P p.1 ∧ P ((H.get v p.1).getD V.zero))
  (S : Sep w Rs W) (i : Nat) (hi : Rs[i]? = some (heapR h H)) (v : V) (hv : P v) :
  Calls Tryz.prog 30 #[.pointer (some ⟨h, 0, none⟩), .agg #[.int .i64 v.kind, .int .i64 v.n, .string v.s]] W fun e W' => e = .returned (reprV (H.reprM v)) ∧ Sep w Rs W' := by
 obtain ⟨b, hb⟩ : ∃ gx_, (W.heap.size) = gx_ := ⟨_, rfl⟩
 have S1 := ((S.alloc (.cells #[.int .i64 v.kind, .int .i64 v.n, .string v.s] 24)).alloc (.cells #[.string ⟨#[]⟩, .int .i64 0, .int .i64 0, .string ⟨#[]⟩, .bool false] 33))
 have S2 := tellMade (h := h) S1
 simp only [World.size_alloc, hb] at S2
 have K := Lib.hid (tell_ok G hN (PL (b + 1 + 1)) PI PK 30 S2 (i + 2) (by simpa using hi) (by simp) v hv 0 (by simp) (by simp))
 obtain ⟨d00, d01, d02⟩ := wpVal v (S2.box (b := b) 2 rfl)
 obtain ⟨T, hT⟩ : ∃ T, H.reprM v = T := ⟨_, rfl⟩
 rw [show H.tellF 30 v ⟨[], .no⟩ = T from hT] at K
 have HT := Lib.hid hT
 clear S S1 S2 hi hv hT PL PI PK
 go_enter Tryz.func30, Tryz.ntmps30
 go_wp2_with fail
 try simp only [World.size_alloc, hb]
 refine K.out.mono ?_
 rintro e w1 ⟨rfl, S⟩
 clear K hb d00 d01 d02
 obtain ⟨p, vq, q1, q2, q3, -⟩ := S.telB 0 rfl
 cases hfl : T.fell with
 | no =>
  have HR : Hid (reprV T = .tuple #[.string ⟨T.out.toArray⟩, excZ]) := Lib.hid (by unfold reprV; rw [hfl])
  rw [hfl] at q2
  have c2 := cellAt q2 3 (v := .string ⟨#[]⟩) rfl
  have M := Lib.hid (telString S)
  clear S q1 q2 q3 hfl
  go_wp2_with fail
  refine M.out.mono ?_
  rintro e w2 ⟨rfl, S⟩
  clear M c2
  replace S : Sep w (boxE (b + 1) :: boxV b v :: Rs) w2 := S
  have hz := S.box (b := b + 1) 0 rfl
  have z0 := cellAt hz 0 (v := .string ⟨#[]⟩) rfl
  have z1 := cellAt hz 1 (v := .int .i64 0) rfl
  have z2 := cellAt hz 2 (v := .int .i64 0) rfl
  have z3 := cellAt hz 3 (v := .string ⟨#[]⟩) rfl
  have z4 := cellAt hz 4 (v := .bool false) rfl
  have z5 := frozenAt hz 0
  have z6 := frozenAt hz 1
  have z7 := frozenAt hz 2
  have z8 := frozenAt hz 3
  have z9 := frozenAt hz 4
  have S9 := Lib.hid (S.toAny (q := b + 1) 0 rfl)
  clear S hz
  go_wp2
  have FR : Hid (∀ W', Sep w (anyR (b + 1) :: boxV b v :: Rs) W' → Sep w Rs W') := Lib.hid fun W' T' => T'.tail.tail
  refine bodyPost_ret (v := .tuple #[.string ⟨T.out.toArray⟩, excZ]) ?_ ?_ ?_
  ·
   simp [results, Tryz.results30, go_sem, z0, z1, z2, z3, z4]
  ·
   rfl
  refine ⟨by rw [HT.out, HR.out], FR.out _ ?_⟩
  iterate 5 refine Sep.poke (q := b + 1) ?_ 0 rfl _ _
  exact S9.out
 | memory =>
  have HR : Hid (reprV T = .tuple #[.string ⟨#[]⟩, excN memoryError]) := Lib.hid (by unfold reprV; rw [hfl]; rfl)
  rw [hfl] at q2
  have c2 := cellAt q2 3 (v := .string memoryError) rfl
  have M : Hid (Calls Tryz.prog 87 #[.string memoryError] w1 fun e W' => e = .returned (excN memoryError) ∧ Sep w (tellR (b + 1 + 1) h T :: boxE (b + 1) :: boxV b v :: Rs) W') := Lib.hid ((raise_ok w1 memoryError).mono fun e W' hh => ⟨hh.1, S.later hh.2⟩)
  clear S q1 q2 q3 hfl
  go_wp2_with fail
  refine M.out.mono ?_
  rintro e w2 ⟨rfl, S⟩
  clear M c2
  have hz := S.box (b := b + 1) 1 rfl
  have z0 := cellAt hz 0 (v := .string ⟨#[]⟩) rfl
  have z1 := cellAt hz 1 (v := .int .i64 0) rfl
  have z2 := cellAt hz 2 (v := .int .i64 0) rfl
  have z3 := cellAt hz 3 (v := .string ⟨#[]⟩) rfl
  have z4 := cellAt hz 4 (v := .bool false) rfl
  have z5 := frozenAt hz 0
  have z6 := frozenAt hz 1
  have z7 := frozenAt hz 2
  have z8 := frozenAt hz 3
  have z9 := frozenAt hz 4
  have S9 := Lib.hid (S.toAny (q := b + 1) 1 rfl)
  clear S hz
  go_wp2
  have FR : Hid (∀ W', Sep w (tellR (b + 1 + 1) h T :: anyR (b + 1) :: boxV b v :: Rs) W' → Sep w Rs W') := Lib.hid fun W' T' => T'.tail.tail.tail
  refine bodyPost_ret (v := .tuple #[.string ⟨#[]⟩, excN memoryError]) ?_ ?_ ?_
  ·
   simp [results, Tryz.results30, go_sem, z0, z1, z2, z3, z4]
  ·
   rfl
  refine ⟨by rw [HT.out, HR.out], FR.out _ ?_⟩
  iterate 5 refine Sep.poke (q := b + 1) ?_ 1 rfl _ _
  exact S9.out
 | deep =>
  have HR : Hid (reprV T = .tuple #[.string ⟨#[]⟩, excN recursionError]) := Lib.hid (by unfold reprV; rw [hfl]; rfl)
  rw [hfl] at q2
  have c2 := cellAt q2 3 (v := .string recursionError) rfl
  have M : Hid (Calls Tryz.prog 87 #[.string recursionError] w1 fun e W' => e = .returned (excN recursionError) ∧ Sep w (tellR (b + 1 + 1) h T :: boxE (b + 1) :: boxV b v :: Rs) W') := Lib.hid ((raise_ok w1 recursionError).mono fun e W' hh => ⟨hh.1, S.later hh.2⟩)
  clear S q1 q2 q3 hfl
  go_wp2_with fail
  refine M.out.mono ?_
  rintro e w2 ⟨rfl, S⟩
  clear M c2
  have hz := S.box (b := b + 1) 1 rfl
  have z0 := cellAt hz 0 (v := .string ⟨#[]⟩) rfl
  have z1 := cellAt hz 1 (v := .int .i64 0) rfl
  have z2 := cellAt hz 2 (v := .int .i64 0) rfl
  have z3 := cellAt hz 3 (v := .string ⟨#[]⟩) rfl
  have z4 := cellAt hz 4 (v := .bool false) rfl
  have z5 := frozenAt hz 0
  have z6 := frozenAt hz 1
  have z7 := frozenAt hz 2
  have z8 := frozenAt hz 3
  have z9 := frozenAt hz 4
  have S9 := Lib.hid (S.toAny (q := b + 1) 1 rfl)
  clear S hz
  go_wp2
  have FR : Hid (∀ W', Sep w (tellR (b + 1 + 1) h T :: anyR (b + 1) :: boxV b v :: Rs) W' → Sep w Rs W') := Lib.hid fun W' T' => T'.tail.tail.tail
  refine bodyPost_ret (v := .tuple #[.string ⟨#[]⟩, excN recursionError]) ?_ ?_ ?_
  ·
   simp [results, Tryz.results30, go_sem, z0, z1, z2, z3, z4]
  ·
   rfl
  refine ⟨by rw [HT.out, HR.out], FR.out _ ?_⟩
  iterate 5 refine Sep.poke (q := b + 1) ?_ 1 rfl _ _
  exact S9.out
/-- A str by itself. -/
theorem str_ok (S : Sep w Rs W) (s : ByteArray) (n : Int) :
  Calls Tryz.prog 32 #[.pointer (some ⟨h, 0, none⟩), .agg #[.int .i64 3, .int .i64 n, .string s]] W fun e W' => e = .returned (.tuple #[.string s, excZ]) ∧ Sep w Rs W' := by
 obtain ⟨b, hb⟩ : ∃ gx_, (W.heap.size) = gx_ := ⟨_, rfl⟩
 have S1 := ((S.alloc (.cells #[.int .i64 3, .int .i64 n, .string s] 24)).alloc (.cells #[.string ⟨#[]⟩, .int .i64 0, .int .i64 0, .string ⟨#[]⟩, .bool false] 33))
 simp only [World.size_alloc, hb] at S1
 have d00 := cellAt (S1.box (b := b) 1 rfl) 0 (v := .int .i64 3) rfl
 have d01 := cellAt (S1.box (b := b) 1 rfl) 1 (v := .int .i64 n) rfl
 have d02 := cellAt (S1.box (b := b) 1 rfl) 2 (v := .string s) rfl
 have HS := Lib.hid S1.tail.tail
 have hz := S1.box (b := b + 1) 0 rfl
 have z0 := cellAt hz 0 (v := .string ⟨#[]⟩) rfl
 have z1 := cellAt hz 1 (v := .int .i64 0) rfl
 have z2 := cellAt hz 2 (v := .int .i64 0) rfl
 have z3 := cellAt hz 3 (v := .string ⟨#[]⟩) rfl
 have z4 := cellAt hz 4 (v := .bool false) rfl
 clear S S1 hz
 go_enter Tryz.func32, Tryz.ntmps32
 go_wp2
 try simp only [World.size_alloc, hb]
 exact bodyPost_ret (v := .tuple #[.string s, excZ]) (by simp [results, Tryz.results32, go_sem, z0, z1, z2, z3, z4]) rfl ⟨rfl, HS.out⟩
end
end Go.Proofs.YtijlebhoapdfnaaGreat
