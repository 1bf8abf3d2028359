/- ch 16: Cmp of an unknown word. -/
import Derived.Test.YtijlebhoapdfnaaGreatCmpT
import Derived.Test.YtijlebhoapdfnaaGreatOprD
set_option maxRecDepth 100000
set_option maxHeartbeats 8000000
namespace Go.Proofs.YtijlebhoapdfnaaGreat
set_option linter.unusedSimpArgs false
open Go.RowKit Go.Maps
set_option linter.unusedVariables false
section
variable {w W : World} {Rs : List Res} {h : Nat} {H : HeapM}
theorem cmp_unknown (S : Sep w Rs W) (op : ByteArray) (hops : op.size ≤ maxLen) (x y : V) (hop : ∀ m, getL (cmpTab m) op = none) :
  Calls Tryz.prog 25 #[.pointer (some ⟨h, 0, none⟩), .string op, .agg #[.int .i64 x.kind, .int .i64 x.n, .string x.s], .agg #[.int .i64 y.kind, .int .i64 y.n, .string y.s]] W fun e W' => e = .returned (.tuple #[zeroV, excN typeError]) ∧ Sep w Rs W' := by
 have hi : True := trivial
 obtain ⟨b, hb⟩ : ∃ gx_, (W.heap.size) = gx_ := ⟨_, rfl⟩
 have S1 := (((S.alloc (.cells #[.int .i64 x.kind, .int .i64 x.n, .string x.s] 24)).alloc (.cells #[.int .i64 y.kind, .int .i64 y.n, .string y.s] 24)).alloc (.cells #[.int .i64 0, .int .i64 0, .string ⟨#[]⟩] 24)).alloc (.cells #[.string ⟨#[]⟩, .int .i64 0, .int .i64 0, .string ⟨#[]⟩, .bool false] 33)
 have S2 := S1.mapMade 9 ekS exC
 simp only [World.size_alloc, hb] at S2
 obtain ⟨m, hm⟩ : ∃ m, m = b + 1 + 1 + 1 + 1 := ⟨_, rfl⟩
 rw [← hm] at S2
 obtain ⟨W0, hW0⟩ : ∃ W0, W0 = ((((W.alloc (.cells #[.int .i64 x.kind, .int .i64 x.n, .string x.s] 24)).alloc (.cells #[.int .i64 y.kind, .int .i64 y.n, .string y.s] 24)).alloc (.cells #[.int .i64 0, .int .i64 0, .string ⟨#[]⟩] 24)).alloc (.cells #[.string ⟨#[]⟩, .int .i64 0, .int .i64 0, .string ⟨#[]⟩, .bool false] 33)).alloc (.map #[] 0) := ⟨_, rfl⟩
 have z0 : W0.heap.size = m + 1 := by rw [hW0]; simp only [World.size_alloc, hb]; omega
 rw [← hW0] at S2
 replace S2 : Sep w (cmpR m [] :: boxR (b + 1 + 1 + 1) (.cells #[.string ⟨#[]⟩, .int .i64 0, .int .i64 0, .string ⟨#[]⟩, .bool false] 33) :: boxR (b + 1 + 1) (.cells #[.int .i64 0, .int .i64 0, .string ⟨#[]⟩] 24) :: boxR (b + 1) (.cells #[.int .i64 y.kind, .int .i64 y.n, .string y.s] 24) :: boxR b (.cells #[.int .i64 x.kind, .int .i64 x.n, .string x.s] 24) :: Rs) W0 := S2
 obtain ⟨W1, r1, T1, z1⟩ := cmpPut (l' := [(⟨#[61, 61]⟩, (.func (.func 27) #[] #[], false))]) 0 S2 rfl ⟨#[61, 61]⟩ (by decide) (.func (.func 27) #[] #[]) false rfl rfl
 obtain ⟨W2, r2, T2, z2⟩ := cmpPut (l' := [(⟨#[61, 61]⟩, (.func (.func 27) #[] #[], false)), (⟨#[33, 61]⟩, (.func (.func 27) #[] #[], true))]) 0 T1 rfl ⟨#[33, 61]⟩ (by decide) (.func (.func 27) #[] #[]) true rfl rfl
 obtain ⟨W3, r3, T3, z3⟩ := cmpPut (l' := [(⟨#[61, 61]⟩, (.func (.func 27) #[] #[], false)), (⟨#[33, 61]⟩, (.func (.func 27) #[] #[], true)), (⟨#[105, 115]⟩, (.func (.func 113) #[] #[], false))]) 0 T2 rfl ⟨#[105, 115]⟩ (by decide) (.func (.func 113) #[] #[]) false rfl rfl
 obtain ⟨W4, r4, T4, z4⟩ := cmpPut (l' := [(⟨#[61, 61]⟩, (.func (.func 27) #[] #[], false)), (⟨#[33, 61]⟩, (.func (.func 27) #[] #[], true)), (⟨#[105, 115]⟩, (.func (.func 113) #[] #[], false)), (⟨#[105, 115, 32, 110, 111, 116]⟩, (.func (.func 113) #[] #[], true))]) 0 T3 rfl ⟨#[105, 115, 32, 110, 111, 116]⟩ (by decide) (.func (.func 113) #[] #[]) true rfl rfl
 obtain ⟨W5, r5, T5, z5⟩ := cmpPut (l' := [(⟨#[61, 61]⟩, (.func (.func 27) #[] #[], false)), (⟨#[33, 61]⟩, (.func (.func 27) #[] #[], true)), (⟨#[105, 115]⟩, (.func (.func 113) #[] #[], false)), (⟨#[105, 115, 32, 110, 111, 116]⟩, (.func (.func 113) #[] #[], true)), (⟨#[105, 110]⟩, (.func (.func 115) #[] #[], false))]) 0 T4 rfl ⟨#[105, 110]⟩ (by decide) (.func (.func 115) #[] #[]) false rfl rfl
 obtain ⟨W6, r6, T6, z6⟩ := cmpPut (l' := [(⟨#[61, 61]⟩, (.func (.func 27) #[] #[], false)), (⟨#[33, 61]⟩, (.func (.func 27) #[] #[], true)), (⟨#[105, 115]⟩, (.func (.func 113) #[] #[], false)), (⟨#[105, 115, 32, 110, 111, 116]⟩, (.func (.func 113) #[] #[], true)), (⟨#[105, 110]⟩, (.func (.func 115) #[] #[], false)), (⟨#[110, 111, 116, 32, 105, 110]⟩, (.func (.func 115) #[] #[], true))]) 0 T5 rfl ⟨#[110, 111, 116, 32, 105, 110]⟩ (by decide) (.func (.func 115) #[] #[]) true rfl rfl
 replace z6 : W6.heap.size = m + 1 := by omega
 have K := Lib.hid (order_ok T6 (m + 1) z6 true false)
 have HI := Lib.hid (And.intro hi (And.intro hop hm))
 clear S S1 S2 hi hop T1 T2 T3 T4 T5 T6 z0 z1 z2 z3 z4 z5 z6
 have hmk : (Instr.makeMap 133 none).run Tryz.prog ((((W.alloc (.cells #[.int .i64 x.kind, .int .i64 x.n, .string x.s] 24)).alloc (.cells #[.int .i64 y.kind, .int .i64 y.n, .string y.s] 24)).alloc (.cells #[.int .i64 0, .int .i64 0, .string ⟨#[]⟩] 24)).alloc (.cells #[.string ⟨#[]⟩, .int .i64 0, .int .i64 0, .string ⟨#[]⟩, .bool false] 33)) = .ok (.map (some m)) W0 := by
  rw [run_makeMap, hW0, hm]; simp only [World.size_alloc, hb]
 clear hW0 hm
 go_enter Tryz.func25, Tryz.ntmps25
 go_wp2_with fail
 try simp only [World.size_alloc, hb]
 refine K.out.mono ?_
 rintro e V6 ⟨rfl, T, zz⟩
 clear K hb hmk r1 r2 r3 r4 r5 r6
 obtain ⟨W7, r, T, z⟩ := cmpPut (l' := [(⟨#[61, 61]⟩, (.func (.func 27) #[] #[], false)), (⟨#[33, 61]⟩, (.func (.func 27) #[] #[], true)), (⟨#[105, 115]⟩, (.func (.func 113) #[] #[], false)), (⟨#[105, 115, 32, 110, 111, 116]⟩, (.func (.func 113) #[] #[], true)), (⟨#[105, 110]⟩, (.func (.func 115) #[] #[], false)), (⟨#[110, 111, 116, 32, 105, 110]⟩, (.func (.func 115) #[] #[], true)), (⟨#[60]⟩, (ordV (m + 1), false))]) 2 T rfl ⟨#[60]⟩ (by decide) (ordV (m + 1)) false rfl rfl
 replace z : W7.heap.size = m + 3 := by omega
 have K := Lib.hid (order_ok T (m + 3) z true true)
 clear T z zz
 go_wp2_with fail
 refine K.out.mono ?_
 rintro e V7 ⟨rfl, T, zz⟩
 clear K r
 obtain ⟨W8, r, T, z⟩ := cmpPut (l' := [(⟨#[61, 61]⟩, (.func (.func 27) #[] #[], false)), (⟨#[33, 61]⟩, (.func (.func 27) #[] #[], true)), (⟨#[105, 115]⟩, (.func (.func 113) #[] #[], false)), (⟨#[105, 115, 32, 110, 111, 116]⟩, (.func (.func 113) #[] #[], true)), (⟨#[105, 110]⟩, (.func (.func 115) #[] #[], false)), (⟨#[110, 111, 116, 32, 105, 110]⟩, (.func (.func 115) #[] #[], true)), (⟨#[60]⟩, (ordV (m + 1), false)), (⟨#[60, 61]⟩, (ordV (m + 3), false))]) 4 T rfl ⟨#[60, 61]⟩ (by decide) (ordV (m + 3)) false rfl rfl
 replace z : W8.heap.size = m + 5 := by omega
 have K := Lib.hid (order_ok T (m + 5) z false false)
 clear T z zz
 go_wp2_with fail
 refine K.out.mono ?_
 rintro e V8 ⟨rfl, T, zz⟩
 clear K r
 obtain ⟨W9, r, T, z⟩ := cmpPut (l' := [(⟨#[61, 61]⟩, (.func (.func 27) #[] #[], false)), (⟨#[33, 61]⟩, (.func (.func 27) #[] #[], true)), (⟨#[105, 115]⟩, (.func (.func 113) #[] #[], false)), (⟨#[105, 115, 32, 110, 111, 116]⟩, (.func (.func 113) #[] #[], true)), (⟨#[105, 110]⟩, (.func (.func 115) #[] #[], false)), (⟨#[110, 111, 116, 32, 105, 110]⟩, (.func (.func 115) #[] #[], true)), (⟨#[60]⟩, (ordV (m + 1), false)), (⟨#[60, 61]⟩, (ordV (m + 3), false)), (⟨#[62]⟩, (ordV (m + 5), false))]) 6 T rfl ⟨#[62]⟩ (by decide) (ordV (m + 5)) false rfl rfl
 replace z : W9.heap.size = m + 7 := by omega
 have K := Lib.hid (order_ok T (m + 7) z false true)
 clear T z zz
 go_wp2_with fail
 refine K.out.mono ?_
 rintro e V9 ⟨rfl, T, zz⟩
 clear K r
 obtain ⟨W10, r, T, z⟩ := cmpPut (l' := [(⟨#[61, 61]⟩, (.func (.func 27) #[] #[], false)), (⟨#[33, 61]⟩, (.func (.func 27) #[] #[], true)), (⟨#[105, 115]⟩, (.func (.func 113) #[] #[], false)), (⟨#[105, 115, 32, 110, 111, 116]⟩, (.func (.func 113) #[] #[], true)), (⟨#[105, 110]⟩, (.func (.func 115) #[] #[], false)), (⟨#[110, 111, 116, 32, 105, 110]⟩, (.func (.func 115) #[] #[], true)), (⟨#[60]⟩, (ordV (m + 1), false)), (⟨#[60, 61]⟩, (ordV (m + 3), false)), (⟨#[62]⟩, (ordV (m + 5), false)), (⟨#[62, 61]⟩, (ordV (m + 7), false))]) 8 T rfl ⟨#[62, 61]⟩ (by decide) (ordV (m + 7)) false rfl rfl
 replace T : Sep w (boxR (m + 7 + 1) (.cells #[.bool true] 4) :: boxR (m + 7) (.cells #[.bool false] 4) :: boxR (m + 5 + 1) (.cells #[.bool false] 4) :: boxR (m + 5) (.cells #[.bool false] 4) :: boxR (m + 3 + 1) (.cells #[.bool true] 4) :: boxR (m + 3) (.cells #[.bool true] 4) :: boxR (m + 1 + 1) (.cells #[.bool false] 4) :: boxR (m + 1) (.cells #[.bool true] 4) :: cmpR m (cmpTab m) :: boxR (b + 1 + 1 + 1) (.cells #[.string ⟨#[]⟩, .int .i64 0, .int .i64 0, .string ⟨#[]⟩, .bool false] 33) :: boxR (b + 1 + 1) (.cells #[.int .i64 0, .int .i64 0, .string ⟨#[]⟩] 24) :: boxR (b + 1) (.cells #[.int .i64 y.kind, .int .i64 y.n, .string y.s] 24) :: boxR b (.cells #[.int .i64 x.kind, .int .i64 x.n, .string x.s] 24) :: Rs) W10 := T
 obtain ⟨kl, hkl⟩ := keyOfS op hops
 have LK := (T.mapLook 8 rfl).look ekS_inj keyS_ Tryz.underlying133 (Tryz.zeroValue130 W10) hkl true
 rw [HI.out.2.1 m] at LK
 replace LK : (Instr.lookup 133 (.map (some m)) (.string op) true).run Tryz.prog W10 = .ok (.tuple #[.agg #[.nilFunc, .bool false], .bool false]) W10 := LK
 obtain ⟨c, hc⟩ : ∃ gx_, (W10.heap.size) = gx_ := ⟨_, rfl⟩
 have S := T.alloc (.cells #[.nilFunc, .bool false] 130)
 rw [hc] at S
 clear T z zz
 have M := Lib.hid (wrong_ok S)
 have HCC := Lib.hid hc
 clear S hc
 go_wp2_with fail
 try simp only [HCC.out]
 refine M.out.mono ?_
 rintro e w3 ⟨rfl, S⟩
 clear M LK r hkl HCC
 have hz := S.box (b := b + 1 + 1 + 1) 10 rfl
 have z0 := cellAt hz 0 (v := .string ⟨#[]⟩) rfl
 have z1 := cellAt hz 1 (v := .int .i64 0) rfl
 have z2 := cellAt hz 2 (v := .int .i64 0) rfl
 have z3 := cellAt hz 3 (v := .string ⟨#[]⟩) rfl
 have z4 := cellAt hz 4 (v := .bool false) rfl
 have z5 := frozenAt hz 0
 have z6 := frozenAt hz 1
 have z7 := frozenAt hz 2
 have z8 := frozenAt hz 3
 have z9 := frozenAt hz 4
 have hv := S.box (b := b + 1 + 1) 11 rfl
 have v0 := cellAt hv 0 (v := .int .i64 0) rfl
 have v1 := cellAt hv 1 (v := .int .i64 0) rfl
 have v2 := cellAt hv 2 (v := .string ⟨#[]⟩) rfl
 have v3 := frozenAt hv 0
 have v4 := frozenAt hv 1
 have v5 := frozenAt hv 2
 have S9 := Lib.hid ((S.toAny (q := b + 1 + 1 + 1) 10 rfl).toAny (q := b + 1 + 1) 11 rfl)
 have FR : Hid (∀ W', Sep w (boxR c (.cells #[.nilFunc, .bool false] 130) :: boxR (m + 7 + 1) (.cells #[.bool true] 4) :: boxR (m + 7) (.cells #[.bool false] 4) :: boxR (m + 5 + 1) (.cells #[.bool false] 4) :: boxR (m + 5) (.cells #[.bool false] 4) :: boxR (m + 3 + 1) (.cells #[.bool true] 4) :: boxR (m + 3) (.cells #[.bool true] 4) :: boxR (m + 1 + 1) (.cells #[.bool false] 4) :: boxR (m + 1) (.cells #[.bool true] 4) :: cmpR m (cmpTab m) :: anyR (b + 1 + 1 + 1) :: anyR (b + 1 + 1) :: boxR (b + 1) (.cells #[.int .i64 y.kind, .int .i64 y.n, .string y.s] 24) :: boxR b (.cells #[.int .i64 x.kind, .int .i64 x.n, .string x.s] 24) :: Rs) W' → Sep w Rs W') := Lib.hid fun W' T => T.tail.tail.tail.tail.tail.tail.tail.tail.tail.tail.tail.tail.tail.tail
 clear S hz hv
 go_wp2
 refine bodyPost_ret (v := .tuple #[zeroV, excN typeError]) (by simp [results, Tryz.results25, go_sem, z0, z1, z2, z3, z4, v0, v1, v2]) rfl ⟨rfl, FR.out _ ?_⟩
 iterate 5 refine Sep.poke (q := b + 1 + 1 + 1) ?_ 10 rfl _ _
 iterate 3 refine Sep.poke (q := b + 1 + 1) ?_ 11 rfl _ _
 exact S9.out
end
end Go.Proofs.YtijlebhoapdfnaaGreat
