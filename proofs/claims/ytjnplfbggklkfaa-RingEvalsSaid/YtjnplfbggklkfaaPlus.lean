/- The ring's plus: the sum of two normal forms kept as maps. -/
import Derived.Test.YtjnplfbggklkfaaSame
import Derived.Test.YtjnplfbggklkfaaPoly
namespace Go.Proofs.Ytjnplfbggklkfaa
open Go.RowKit
set_option linter.unusedVariables false
set_option linter.unusedSimpArgs false

theorem blk_lt' {w : World} {g : Nat} {o : Obj} (h : w.heap[g]? = some o) : g < w.heap.size := (Array.getElem?_eq_some_iff.1 h).1
/-- The call of add, its key written out. -/
theorem add_calls8 (r : Nat) (es : Asc) (x0 x1 x2 x3 x4 x5 x6 x7 c : Int) (w : World) (hm : MapIs w r es) (hk : Vec [x0, x1, x2, x3, x4, x5, x6, x7]) (hp : Pos es) (h2 : 0 < c) (h3 : c ≤ 1000000000000000) (hl : es.length ≤ 200) :
    Calls Try.prog 40 #[.map (some r), .agg #[.int .i64 x0, .int .i64 x1, .int .i64 x2, .int .i64 x3, .int .i64 x4, .int .i64 x5, .int .i64 x6, .int .i64 x7], .int .i64 c] w fun e w' =>
      e = .returned (.bool (decide (getA es [x0, x1, x2, x3, x4, x5, x6, x7] + c ≤ 1000000000000000) && decide ((setA es [x0, x1, x2, x3, x4, x5, x6, x7] (getA es [x0, x1, x2, x3, x4, x5, x6, x7] + c)).length ≤ 200))) ∧
      MapIs w' r (setA es [x0, x1, x2, x3, x4, x5, x6, x7] (getA es [x0, x1, x2, x3, x4, x5, x6, x7] + c)) ∧ But r w w' :=
  have hb := get_bounds hp [x0, x1, x2, x3, x4, x5, x6, x7]
  add_calls r es [x0, x1, x2, x3, x4, x5, x6, x7] c w hm hk hb.1 hb.2.1 (by omega) h3 (by omega)

/-- The sum of the first j of two functions. -/
def sumF (a b : Asc) (j : Nat) (k : List Int) : Int := if j = 0 then 0 else if j = 1 then getA a k else getA a k + getA b k
theorem sumF_mono (a b : Asc) (ha : Pos a) (hb : Pos b) (j : Nat) (k : List Int) : sumF a b j k ≤ getA a k + getA b k := by
  have := get_bounds ha k
  have := get_bounds hb k
  unfold sumF
  split
  · omega
  · split <;> omega
def PlusPost (w : World) (a b : Asc) (e : Ending) (w' : World) : Prop :=
  Below w.heap.size w w' ∧
  ((e = .returned (.tuple #[.map none, .bool false]) ∧ Big (fun k => getA a k + getA b k)) ∨
   ∃ r es, e = .returned (.tuple #[.map (some r), .bool true]) ∧ w.heap.size ≤ r ∧ MapIs w' r es ∧ Rep es (fun k => getA a k + getA b k))
theorem PlusPost.bad {w : World} {a b : Asc} {w' : World} (h : Below w.heap.size w w') (hb : Big (fun k => getA a k + getA b k)) : PlusPost w a b (.returned (.tuple #[.map none, .bool false])) w' := ⟨h, .inl ⟨rfl, hb⟩⟩
theorem PlusPost.good {w : World} {a b : Asc} {w' : World} {r : Nat} {es : Asc} (h : Below w.heap.size w w') (hr : w.heap.size ≤ r) (hm : MapIs w' r es) (hp : Rep es (fun k => getA a k + getA b k)) : PlusPost w a b (.returned (.tuple #[.map (some r), .bool true])) w' :=
  ⟨h, .inr ⟨r, es, rfl, hr, hm, hp⟩⟩

set_option maxRecDepth 100000 in
set_option maxHeartbeats 8000000 in
theorem plus_calls (r1 r2 : Nat) (a b : Asc) (w : World) (h1 : MapIs w r1 a) (h2 : MapIs w r2 b) (pa : Pos a) (pb : Pos b) :
    Calls Try.prog 34 #[.map (some r1), .map (some r2)] w (PlusPost w a b) := by
  have hmm := @run_makeMap Try.prog
  have H1 := Lib.hid h1
  have H2 := Lib.hid h2
  have l1 := Lib.hid h1.lt
  have l2 := Lib.hid h2.lt
  have PA := Lib.hid pa
  have PB := Lib.hid pb
  clear h1 h2 pa pb
  go_enter Try.func34, Try.ntmps34
  go_wp2
  have G0 : Hid (MapIs ((w.alloc (.map #[] 0)).alloc (.cells #[.map (some r1), .map (some r2)] 41)) w.heap.size []) := Lib.hid ⟨by
      have := heap_alloc_new w (.map #[] 0)
      rw [Below.heap_alloc _ _ _ (by simp)]
      exact this, by simp, by simp⟩
  have B0 : Hid (((w.alloc (.map #[] 0)).alloc (.cells #[.map (some r1), .map (some r2)] 41)).heap[w.heap.size + 1]? = some (.cells #[.map (some r1), .map (some r2)] 41 (0, 0))) := Lib.hid (by
      have := heap_alloc_new (w.alloc (.map #[] 0)) (.cells #[.map (some r1), .map (some r2)] 41)
      simpa using this)
  have W0 : Hid (Below w.heap.size w ((w.alloc (.map #[] 0)).alloc (.cells #[.map (some r1), .map (some r2)] 41))) := Lib.hid (((Below.refl _ _).alloc (Nat.le_refl _) _).alloc (by simp) _)
  go_loopg [16] 2 (fun n v16 wr => ∃ (j : Nat) (es : Asc), v16 = .int .i64 j ∧ Hid (j ≤ 2) ∧ Hid (n = 2 - j) ∧ Hid (MapIs wr w.heap.size es) ∧ Hid (Rep es (sumF a b j)) ∧ Hid (wr.heap[w.heap.size + 1]? = some (.cells #[.map (some r1), .map (some r2)] 41 (0, 0))) ∧ Hid (Below w.heap.size w wr))
  case atStart => exact ⟨0, [], rfl, Lib.hid (by omega), Lib.hid rfl, G0, Lib.hid (Rep.nil.congr fun k => rfl), B0, W0⟩
  case round =>
    clear G0 B0 W0 hmm
    obtain ⟨j, es, rfl, HJ, HN, M, R, BL, B⟩ := hrel
    by_cases hj : j = 2
    · subst hj
      have RR := Lib.hid (R.out.congr (g := fun k => getA a k + getA b k) fun k => rfl)
      clear HJ HN BL R
      go_wp2
      go_ret2
      exact PlusPost.good B.out (Nat.le_refl _) M.out RR.out
    · have hj2 : j < 2 := by have := HJ.out; omega
      obtain ⟨rq, q, hq, hlq, hpq, hcell, hsum⟩ : ∃ rq q, MapIs wr rq q ∧ rq < w.heap.size ∧ Pos q ∧ wr.cell? ⟨w.heap.size + 1, j, none⟩ = some (.map (some rq)) ∧ ∀ k, sumF a b (j + 1) k = sumF a b j k + getA q k := by
        have hc := cell_of_row wr (w.heap.size + 1) j _ _ _ BL.out
        by_cases h0 : j = 0
        · subst h0
          exact ⟨r1, a, H1.out.below B.out, l1.out, PA.out, hc, fun k => by simp [sumF]⟩
        · obtain rfl : j = 1 := by omega
          exact ⟨r2, b, H2.out.below B.out, l2.out, PB.out, hc, fun k => by simp [sumF]⟩
      have hrg := run_range_ hq
      have GI := Lib.hid (Going.start hq)
      have MI := Lib.hid (M.out.alloc (.mapIter (some rq) q.length #[] q.length))
      have BI := Lib.hid ((Below.heap_alloc wr (.mapIter (some rq) q.length #[] q.length) _ (blk_lt' BL.out)).trans BL.out)
      have WI := Lib.hid (B.out.alloc B.out.size (.mapIter (some rq) q.length #[] q.length))
      have HLQ := Lib.hid hlq
      have HPQ := Lib.hid hpq
      have HSUM := Lib.hid hsum
      have HWS := Lib.hid (blk_lt' BL.out)
      clear hq hlq hpq hsum M BL B hj
      have hjb : decide ((j : Int) < 2) = true := decide_eq_true (by omega)
      go_wp2
      obtain ⟨wo, rfl⟩ : ∃ wo : World, wo = wr := ⟨_, rfl⟩
      obtain ⟨go, rfl⟩ : ∃ go : Nat, go = gk := ⟨_, rfl⟩
      obtain ⟨it, hit⟩ : ∃ it, it = wo.heap.size := ⟨_, rfl⟩
      simp only [← hit] at *
      clear hit
      go_loopg [22] q.length (fun n v22 w2 => ∃ (seen : List Nat) (es2 : Asc), Hid (n = q.length - seen.length) ∧ Hid (Going w2 it rq q seen) ∧ Hid (MapIs w2 w.heap.size es2) ∧ Hid (Rep es2 (fun k => sumF a b j k + part q seen k)) ∧ Hid (w2.heap[w.heap.size + 1]? = some (.cells #[.map (some r1), .map (some r2)] 41 (0, 0))) ∧ Hid (Below w.heap.size w w2))
      case atStart => exact ⟨[], es, Lib.hid (by simp), GI, MI, Lib.hid (R.out.congr fun k => by rw [part_nil, Int.add_zero]), BI, WI⟩
      case round =>
        clear GI MI R BI WI hrg hcell
        obtain ⟨seen, es2, N2, G, M, R, BL, B⟩ := hrel
        have HNE : Hid (it ≠ w.heap.size) := Lib.hid (by have := HWS.out; omega)
        rcases G.out.next with ⟨hn, hs⟩ | ⟨w1, i, k, c, hn, ho, he, hi, G1, hen, hlt, hv⟩
        · have M1 := M
          have R1 : Hid (Rep es2 (sumF a b (j + 1))) := Lib.hid (R.out.congr fun k => by rw [part_all hs, HSUM.out])
          clear hs G M R
          go_wp2
          go_roundg (2 - (j + 1))
          case measure => have := HN.out; have := HJ.out; omega
          case rel => exact ⟨j + 1, es2, by go_num, Lib.hid (by have := HJ.out; omega), Lib.hid rfl, M1, R1, BL, B⟩
        · have hlen := M.out.lt
          have hb1 : Below w.heap.size w w1 := ho.below B.out (by have := HWS.out; omega)
          have m1 : MapIs (w1.alloc (.cells (exC k) 54)) w.heap.size es2 := (M.out.only ho (Ne.symm HNE.out)).alloc _
          have g1 : Going (w1.alloc (.cells (exC k) 54)) it rq q (seen ++ [i]) := G1.below ((Below.refl w1.heap.size w1).alloc (Nat.le_refl _) _)
          have bl1 : (w1.alloc (.cells (exC k) 54)).heap[w.heap.size + 1]? = some (.cells #[.map (some r1), .map (some r2)] 41 (0, 0)) := by
            have h0 := (ho.block (w.heap.size + 1) (by have := HWS.out; omega)).trans BL.out
            exact (Below.heap_alloc w1 _ _ (blk_lt' h0)).trans h0
          have hcp := HPQ.out _ (List.mem_of_getElem? he)
          have hrep : ∀ k', sumF a b j k' + part q (seen ++ [i]) k' = sumF a b j k' + part q seen k' + (if k = k' then c else 0) := fun k' => by
            rw [part_snoc G.out.map.nd he hi]
            omega
          have hle : ∀ k', sumF a b j k' + part q seen k' + (if k = k' then c else 0) ≤ getA a k' + getA b k' := fun k' => by
            rw [← hrep]
            have h1 := (part_le HPQ.out (seen ++ [i]) k').2
            have h2 := HSUM.out k'
            have h3 := sumF_mono a b PA.out PB.out (j + 1) k'
            omega
          have hw1 : Below w.heap.size w (w1.alloc (.cells (exC k) 54)) := hb1.alloc hb1.size _
          by_cases hok : getA es2 k + c ≤ 1000000000000000 ∧ (setA es2 k (getA es2 k + c)).length ≤ 200
          · have R2 := Lib.hid ((R.out.add hv hcp.2.2 m1.vec hcp.1 hok.1 hok.2).congr fun k' => (hrep k').symm)
            have HB1 := Lib.hid hw1
            have HG1 := Lib.hid g1
            have HL1 := Lib.hid bl1
            have HLT := Lib.hid hlt
            have CT : Calls Try.prog 40 #[.map (some w.heap.size), .agg (exC k), .int .i64 c] (w1.alloc (.cells (exC k) 54)) fun e w' => e = .returned (.bool true) ∧ MapIs w' w.heap.size (setA es2 k (getA es2 k + c)) ∧ But w.heap.size (w1.alloc (.cells (exC k) 54)) w' := by
              have hb := get_bounds R.out.pos k
              refine (add_calls w.heap.size es2 k c _ m1 hv hb.1 hb.2.1 (by omega) hcp.2.1 (by have := R.out.len; omega)).mono ?_
              rintro e w' ⟨rfl, h1, h2⟩
              refine ⟨?_, h1, h2⟩
              rw [decide_eq_true hok.1, decide_eq_true hok.2]
              rfl
            clear hlen hb1 m1 g1 bl1 hcp hrep hle hw1 hok R G M BL B ho he hi G1 hlt
            generalize setA es2 k (getA es2 k + c) = es3 at *
            obtain ⟨x0, x1, x2, x3, x4, x5, x6, x7, rfl⟩ := len8 k hv.1
            clear hv
            simp only [exC, List.map_cons, List.map_nil] at hn hen CT HB1 HG1 HL1
            have HCT := Lib.hid CT
            clear CT
            go_wp2_with (go_at_call 40; refine HCT.out.mono ?_; rintro e w3 ⟨rfl, hm3, hb3⟩)
            have HM3 := Lib.hid hm3
            have HB3 := Lib.hid hb3
            clear hm3 hb3
            go_roundg (q.length - (seen.length + 1))
            case measure => have := N2.out; have := HLT.out; omega
            case rel => exact ⟨seen ++ [i], es3, Lib.hid (by simp), Lib.hid (HG1.out.but HB3.out HNE.out (by have := HLQ.out; omega)), HM3, R2, Lib.hid ((HB3.out.block _ (blk_lt' HL1.out) (by omega)).trans HL1.out), Lib.hid (HB3.out.below HB1.out HB1.out.size (Nat.le_refl _))⟩
          · have RB := Lib.hid (R.out.add_big (g := fun k => getA a k + getA b k) hv m1.vec hcp.1 hok hle)
            have HB1 := Lib.hid hw1
            have CT : Calls Try.prog 40 #[.map (some w.heap.size), .agg (exC k), .int .i64 c] (w1.alloc (.cells (exC k) 54)) fun e w' => e = .returned (.bool false) ∧ But w.heap.size (w1.alloc (.cells (exC k) 54)) w' := by
              have hb := get_bounds R.out.pos k
              refine (add_calls w.heap.size es2 k c _ m1 hv hb.1 hb.2.1 (by omega) hcp.2.1 (by have := R.out.len; omega)).mono ?_
              rintro e w' ⟨rfl, h1, h2⟩
              refine ⟨?_, h2⟩
              rw [← Bool.decide_and, decide_eq_false hok]
            clear hlen hb1 m1 g1 bl1 hcp hrep hle hw1 hok R G M BL B ho he hi G1 hlt
            obtain ⟨x0, x1, x2, x3, x4, x5, x6, x7, rfl⟩ := len8 k hv.1
            clear hv
            simp only [exC, List.map_cons, List.map_nil] at hn hen CT HB1
            have HCT := Lib.hid CT
            clear CT
            go_wp2_with (go_at_call 40; refine HCT.out.mono ?_; rintro e w3 ⟨rfl, hb3⟩)
            go_ret2
            exact PlusPost.bad (hb3.below HB1.out HB1.out.size (Nat.le_refl _)) RB.out
end Go.Proofs.Ytjnplfbggklkfaa
