/- The walk of the law RingKeeps where the two are found equal. -/
import Derived.Test.YtjnplfbggklkfaaRgKeepsWalk
namespace Go.Proofs.Ytjnplfbggklkfaa
open Go.RowKit Go.Proofs.YtjnplfbggklkfaaW.PrintWords Go.Proofs.Ytjnplfbggklkfaa.Rg
set_option linter.unusedVariables false
set_option linter.unusedSimpArgs false

set_option maxHeartbeats 8000000 in
set_option maxRecDepth 100000 in
/-- The two are found equal. -/
theorem keeps_yes (k : Nat) (s3 s4 : Bool) (n3 n4 : Int) (x y z : S24) (A : Option Addr) (c : Nat) (A' : Option Addr) (c' : Nat) (A'' : Option Addr) (c'' : Nat) (w : World)
    (hx : Kd.C k24 w A x.f2.length x.f2) (hy : Kd.C k24 w A' y.f2.length y.f2) (hz : Kd.C k24 w A'' z.f2.length z.f2) (hc : x.f2.length ≤ c) (hc' : y.f2.length ≤ c') (hc'' : z.f2.length ≤ c'')
    (v1 : tenetlaw24_big.f k x.f0 x.f1 x.f2 = some false) (v2 : tenetlaw24_big.f k y.f0 y.f1 y.f2 = some false) (v3 : tenetlaw24_big.f k z.f0 z.f1 z.f2 = some false)
    (q1 : ring_Equal.f k x.f0 x.f1 x.f2 y.f0 y.f1 y.f2 = some (true, 0)) (q2 : ring_Equal.f k y.f0 y.f1 y.f2 x.f0 x.f1 x.f2 = some (true, 0))
    (q3 : ring_Equal.f k 3 0 [x, z] 3 0 [z, y] = some (s3, n3)) (q4 : ring_Equal.f k 4 0 [z, x] 4 0 [y, z] = some (s4, n4))
    (h3 : s3 = true ∨ n3 ≠ 0) (h4 : s4 = true ∨ n4 ≠ 0) :
    Calls Try.prog 4 #[av x A c, av y A' c', av z A'' c''] w (KeepPost w) := by
  have hu24 := Try.underlying24
  have B0 := Lib.hid (Three.start (c := c) (c' := c') (c'' := c'') hx hy hz)
  have V1 := Lib.hid fun w5 (b : Three w w5 x y z A c A' c' A'' c'') => tenetlaw24_big.calls k x.f0 x.f1 A c x.f2 false w5 b.hx hc v1
  have V2 := Lib.hid fun w5 (b : Three w w5 x y z A c A' c' A'' c'') => tenetlaw24_big.calls k y.f0 y.f1 A' c' y.f2 false w5 b.hy hc' v2
  have V3 := Lib.hid fun w5 (b : Three w w5 x y z A c A' c' A'' c'') => tenetlaw24_big.calls k z.f0 z.f1 A'' c'' z.f2 false w5 b.hz hc'' v3
  have Q1 := Lib.hid fun w5 (b : Three w w5 x y z A c A' c' A'' c'') => ring_Equal.calls k x.f0 x.f1 A c x.f2 y.f0 y.f1 A' c' y.f2 true 0 w5 b.hx hc b.hy hc' q1
  have Q2 := Lib.hid fun w5 (b : Three w w5 x y z A c A' c' A'' c'') => ring_Equal.calls k y.f0 y.f1 A' c' y.f2 x.f0 x.f1 A c x.f2 true 0 w5 b.hy hc' b.hx hc q2
  have Q3 := Lib.hid fun w5 D D' (d : Kd.C k24 w5 D 2 [x, z]) (d' : Kd.C k24 w5 D' 2 [z, y]) => ring_Equal.calls k 3 0 D 2 [x, z] 3 0 D' 2 [z, y] s3 n3 w5 d (Nat.le_refl _) d' (Nat.le_refl _) q3
  have Q4 := Lib.hid fun w5 D D' (d : Kd.C k24 w5 D 2 [z, x]) (d' : Kd.C k24 w5 D' 2 [y, z]) => ring_Equal.calls k 4 0 D 2 [z, x] 4 0 D' 2 [y, z] s4 n4 w5 d (Nat.le_refl _) d' (Nat.le_refl _) q4
  have M1 := Lib.hid fun w5 => add10 x z A c A'' c'' w5 hc hc''
  have M2 := Lib.hid fun w5 => add10 z y A'' c'' A' c' w5 hc'' hc'
  have M3 := Lib.hid fun w5 => mul11 z x A'' c'' A c w5 hc'' hc
  have M4 := Lib.hid fun w5 => mul11 y z A' c' A'' c'' w5 hc' hc''
  have H3 := Lib.hid h3
  have H4 := Lib.hid h4
  clear hx hy hz hc hc' hc'' v1 v2 v3 q1 q2 q3 q4 h3 h4
  go_enter Try.func4, Try.ntmps4
  go_upto_region 9 with (first
    | (go_at_call 8; refine (Q2.out _ B4.out).mono ?_; rintro e w7 ⟨rfl, hb7⟩; have B5 := Lib.hid (B4.out.next hb7); clear hb7)
    | (go_at_call 8; refine (Q1.out _ B3.out).mono ?_; rintro e w6 ⟨rfl, hb6⟩; have B4 := Lib.hid (B3.out.next hb6); have x0 := B4.out.x0; have x1 := B4.out.x1; have x2 := B4.out.x2; have y0 := B4.out.y0; have y1 := B4.out.y1; have y2 := B4.out.y2; clear hb6)
    | (go_at_call 6; refine (V3.out _ B2.out).mono ?_; rintro e w5 ⟨rfl, hb5⟩; have B3 := Lib.hid (B2.out.next hb5); have x0 := B3.out.x0; have x1 := B3.out.x1; have x2 := B3.out.x2; have y0 := B3.out.y0; have y1 := B3.out.y1; have y2 := B3.out.y2; clear hb5)
    | (go_at_call 6; refine (V2.out _ B1.out).mono ?_; rintro e w4 ⟨rfl, hb4⟩; have B2 := Lib.hid (B1.out.next hb4); have z0 := B2.out.z0; have z1 := B2.out.z1; have z2 := B2.out.z2; clear hb4)
    | (go_at_call 6; refine (V1.out _ B0.out).mono ?_; rintro e w3 ⟨rfl, hb3⟩; have B1 := Lib.hid (B0.out.next hb3); have y0 := B1.out.y0; have y1 := B1.out.y1; have y2 := B1.out.y2; clear hb3))
  clear V1 V2 V3 Q1 Q2 B0 B1 B2 B3 B4
  have x0 := B5.out.x0
  have x1 := B5.out.x1
  have x2 := B5.out.x2
  have y0 := B5.out.y0
  have y1 := B5.out.y1
  have y2 := B5.out.y2
  have z0 := B5.out.z0
  have z1 := B5.out.z1
  have z2 := B5.out.z2
  go_cut [11, 12] from 54 to 87 (fun v11 v12 wx => v11 = .bool s3 ∧ v12 = .int .i64 n3 ∧ Hid (Three w wx x y z A c A' c' A'' c''))
  case first =>
    go_region_held3 (fun w' => w'.cell? ⟨w.heap.size, 0, none⟩ = some (.int .i64 x.f0) ∧ w'.cell? ⟨w.heap.size, 1, none⟩ = some (.int .i64 x.f1) ∧ w'.cell? ⟨w.heap.size, 2, none⟩ = some (.slice A x.f2.length c) ∧
        w'.cell? ⟨w.heap.size + 1, 0, none⟩ = some (.int .i64 y.f0) ∧ w'.cell? ⟨w.heap.size + 1, 1, none⟩ = some (.int .i64 y.f1) ∧ w'.cell? ⟨w.heap.size + 1, 2, none⟩ = some (.slice A' y.f2.length c') ∧
        w'.cell? ⟨w.heap.size + 1 + 1, 0, none⟩ = some (.int .i64 z.f0) ∧ w'.cell? ⟨w.heap.size + 1 + 1, 1, none⟩ = some (.int .i64 z.f1) ∧ w'.cell? ⟨w.heap.size + 1 + 1, 2, none⟩ = some (.slice A'' z.f2.length c''))
      (((try dsimp only); refine ⟨?_, ?_, ?_, ?_, ?_, ?_, ?_, ?_, ?_⟩ <;> (repeat (first | with_reducible assumption | with_reducible (refine cell_drew ?_) | with_reducible (refine cellB (by assumption) ?_)))))
      (first
        | (go_at_call 10; with_reducible refine (M1.out _).mono ?_; rintro e w8 ⟨D1, rfl, hl1, hb8⟩; have B6 := Lib.hid (B5.out.drew.next hb8))
        | (go_at_call 10; with_reducible refine (M2.out _).mono ?_; rintro e w9 ⟨D2, rfl, hl2, hb9⟩; have B7 := Lib.hid (B6.out.next hb9))
        | (go_at_call 8; refine (Q3.out _ _ _ (hl1 _ B7.out.hx B7.out.hz (Agree.below hb9)) (hl2 _ B7.out.hz B7.out.hy (Agree.below (Below.refl _ _)))).mono ?_; rintro e w10 ⟨rfl, hb10⟩; have B8 := Lib.hid (B7.out.next hb10)))
    go_wp2_with fail
    go_meet
    exact ⟨rfl, rfl, B8⟩
  case rest =>
    obtain ⟨rfl, rfl, B6⟩ := hcut
    clear x0 x1 x2 y0 y1 y2 z0 z1 z2 B5 M1 M2 Q3
    have B5 := B6
    clear B6
    have x0 := B5.out.x0
    have x1 := B5.out.x1
    have x2 := B5.out.x2
    have y0 := B5.out.y0
    have y1 := B5.out.y1
    have y2 := B5.out.y2
    have z0 := B5.out.z0
    have z1 := B5.out.z1
    have z2 := B5.out.z2
    go_upto_region 10 with fail
    go_cut [13, 14] from 54 to 87 (fun v13 v14 wx => v13 = .bool s4 ∧ v14 = .int .i64 n4 ∧ Hid (Three w wx x y z A c A' c' A'' c''))
    case first =>
      go_region_held3 (fun w' => w'.cell? ⟨w.heap.size, 0, none⟩ = some (.int .i64 x.f0) ∧ w'.cell? ⟨w.heap.size, 1, none⟩ = some (.int .i64 x.f1) ∧ w'.cell? ⟨w.heap.size, 2, none⟩ = some (.slice A x.f2.length c) ∧
          w'.cell? ⟨w.heap.size + 1, 0, none⟩ = some (.int .i64 y.f0) ∧ w'.cell? ⟨w.heap.size + 1, 1, none⟩ = some (.int .i64 y.f1) ∧ w'.cell? ⟨w.heap.size + 1, 2, none⟩ = some (.slice A' y.f2.length c') ∧
          w'.cell? ⟨w.heap.size + 1 + 1, 0, none⟩ = some (.int .i64 z.f0) ∧ w'.cell? ⟨w.heap.size + 1 + 1, 1, none⟩ = some (.int .i64 z.f1) ∧ w'.cell? ⟨w.heap.size + 1 + 1, 2, none⟩ = some (.slice A'' z.f2.length c''))
        (((try dsimp only); refine ⟨?_, ?_, ?_, ?_, ?_, ?_, ?_, ?_, ?_⟩ <;> (repeat (first | with_reducible assumption | with_reducible (refine cell_drew ?_) | with_reducible (refine cellB (by assumption) ?_)))))
        (first
          | (go_at_call 11; with_reducible refine (M3.out _).mono ?_; rintro e w8 ⟨D1, rfl, hl1, hb8⟩; have B6 := Lib.hid (B5.out.drew.next hb8))
          | (go_at_call 11; with_reducible refine (M4.out _).mono ?_; rintro e w9 ⟨D2, rfl, hl2, hb9⟩; have B7 := Lib.hid (B6.out.next hb9))
          | (go_at_call 8; refine (Q4.out _ _ _ (hl1 _ B7.out.hz B7.out.hx (Agree.below hb9)) (hl2 _ B7.out.hy B7.out.hz (Agree.below (Below.refl _ _)))).mono ?_; rintro e w10 ⟨rfl, hb10⟩; have B8 := Lib.hid (B7.out.next hb10)))
      go_wp2_with fail
      go_meet
      exact ⟨rfl, rfl, B8⟩
    case rest =>
      obtain ⟨rfl, rfl, B6⟩ := hcut
      clear x0 x1 x2 y0 y1 y2 z0 z1 z2 B5 M3 M4 Q4
      cases s3 <;> cases s4
      · have b3 : (n3 != 0) = true := by
          rcases H3.out with h | h
          · cases h
          · exact bne_iff_ne.2 h
        have b4 : (n4 != 0) = true := by
          rcases H4.out with h | h
          · cases h
          · exact bne_iff_ne.2 h
        clear H3 H4
        go_wp2_with (go_at_call 7; refine (awake_calls _).mono ?_; rintro e w7 ⟨rfl, hb7⟩; have B7 := Lib.hid (B6.out.next hb7); clear hb7)
        all_goals go_ret
        all_goals exact ⟨rfl, B7.out.b⟩
      · have b3 : (n3 != 0) = true := by
          rcases H3.out with h | h
          · cases h
          · exact bne_iff_ne.2 h
        clear H3 H4
        go_wp2_with (go_at_call 7; refine (awake_calls _).mono ?_; rintro e w7 ⟨rfl, hb7⟩; have B7 := Lib.hid (B6.out.next hb7); clear hb7)
        all_goals go_ret
        all_goals exact ⟨rfl, B7.out.b⟩
      · have b4 : (n4 != 0) = true := by
          rcases H4.out with h | h
          · cases h
          · exact bne_iff_ne.2 h
        clear H3 H4
        go_wp2_with (go_at_call 7; refine (awake_calls _).mono ?_; rintro e w7 ⟨rfl, hb7⟩; have B7 := Lib.hid (B6.out.next hb7); clear hb7)
        all_goals go_ret
        all_goals exact ⟨rfl, B7.out.b⟩
      · clear H3 H4
        go_wp2_with (go_at_call 7; refine (awake_calls _).mono ?_; rintro e w7 ⟨rfl, hb7⟩; have B7 := Lib.hid (B6.out.next hb7); clear hb7)
        all_goals go_ret
        all_goals exact ⟨rfl, B7.out.b⟩
end Go.Proofs.Ytjnplfbggklkfaa
