/- The walk of Same at two equal products; conditions: the lists are short. -/
import Derived.Test.YtamhigknobdloaaLh
namespace Go.Proofs.Ytamhigknobdloaa
open Go.RowKit
set_option linter.unusedVariables false

set_option maxHeartbeats 3200000 in
set_option maxRecDepth 100000 in
theorem same0 (L : Laid) (As : Option Addr) (cs : Nat) (Ao : Option Addr) (co : Nat) (Bs : Option Addr) (ds : Nat) (Bo : Option Addr) (do_ : Nat) (w : World)
    (h1 : Sl w As (L.sp.map bv)) (h2 : Sl w Bs (L.sp.map bv)) (h3 : Sl w Ao (L.of.map iv)) (h4 : Sl w Bo (L.of.map iv)) (hl1 : L.sp.length ≤ 1000000) (hl2 : L.of.length ≤ 1000000) :
    Calls Try.prog 26 #[laidV L As cs Ao co, laidV L Bs ds Bo do_] w fun e w' => e = .returned (.bool true) ∧ Below w.heap.size w w' := by
  unfold laidV
  have hb0 := ((Below.refl w.heap.size w).alloc (Nat.le_refl _) (.cells #[.int .i64 L.s, .int .i64 L.al, .slice As L.sp.length cs, .slice Ao L.of.length co, .slice none 0 0, .slice none 0 0, .slice none 0 0, .bool false] 31)).alloc (by simp) (.cells #[.int .i64 L.s, .int .i64 L.al, .slice Bs L.sp.length ds, .slice Bo L.of.length do_, .slice none 0 0, .slice none 0 0, .slice none 0 0, .bool false] 31)
  have c1 := run_convb (P := Try.prog) ((w.alloc (.cells #[.int .i64 L.s, .int .i64 L.al, .slice As L.sp.length cs, .slice Ao L.of.length co, .slice none 0 0, .slice none 0 0, .slice none 0 0, .bool false] 31)).alloc (.cells #[.int .i64 L.s, .int .i64 L.al, .slice Bs L.sp.length ds, .slice Bo L.of.length do_, .slice none 0 0, .slice none 0 0, .slice none 0 0, .bool false] 31)) 27 9 5 As L.sp.length cs L.sp Try.underlying27 Try.underlying5 Try.underlying9 ((h1.alloc _).alloc _) rfl
  have c2 := run_convb (P := Try.prog) ((w.alloc (.cells #[.int .i64 L.s, .int .i64 L.al, .slice As L.sp.length cs, .slice Ao L.of.length co, .slice none 0 0, .slice none 0 0, .slice none 0 0, .bool false] 31)).alloc (.cells #[.int .i64 L.s, .int .i64 L.al, .slice Bs L.sp.length ds, .slice Bo L.of.length do_, .slice none 0 0, .slice none 0 0, .slice none 0 0, .bool false] 31)) 27 9 5 Bs L.sp.length ds L.sp Try.underlying27 Try.underlying5 Try.underlying9 ((h2.alloc _).alloc _) rfl
  have o1 := (h3.alloc (.cells #[.int .i64 L.s, .int .i64 L.al, .slice As L.sp.length cs, .slice Ao L.of.length co, .slice none 0 0, .slice none 0 0, .slice none 0 0, .bool false] 31)).alloc (.cells #[.int .i64 L.s, .int .i64 L.al, .slice Bs L.sp.length ds, .slice Bo L.of.length do_, .slice none 0 0, .slice none 0 0, .slice none 0 0, .bool false] 31)
  have o2 := (h4.alloc (.cells #[.int .i64 L.s, .int .i64 L.al, .slice As L.sp.length cs, .slice Ao L.of.length co, .slice none 0 0, .slice none 0 0, .slice none 0 0, .bool false] 31)).alloc (.cells #[.int .i64 L.s, .int .i64 L.al, .slice Bs L.sp.length ds, .slice Bo L.of.length do_, .slice none 0 0, .slice none 0 0, .slice none 0 0, .bool false] 31)
  have hs1 : (L.s != L.s) = false := by simp
  have hs2 : (L.al != L.al) = false := by simp
  have O1 := Lib.hid o1
  have O2 := Lib.hid o2
  have HB0 := Lib.hid hb0
  clear h1 h2 h3 h4 o1 o2 hb0
  go_enter Try.func26, Try.ntmps26
  go_wp2_with fail
  refine (rints_same _ _ _ _ _ L.of _ rfl O1.out (by omega) O2.out).mono ?_
  rintro e w3 ⟨rfl, k3, rfl⟩
  go_wp2_with fail
  refine (rints_same none 0 0 none 0 [] _ rfl Sl.nil (by omega) Sl.nil).mono ?_
  rintro e w4 ⟨rfl, k4, rfl⟩
  go_wp2_with fail
  refine (types_nil _).mono ?_
  rintro e w5 ⟨rfl, rfl⟩
  go_wp2_with fail
  go_loopw [5] (fun v5 wr => v5 = .int .i64 0 ∧ wr.cell? ⟨w.heap.size, 5, none⟩ = some (.slice none 0 0) ∧ Below w.heap.size w wr) (fun _ _ => 0)
  case atStart => exact ⟨rfl, by simp [cell_of_row, heap_alloc_new], by first | exact HB0.out | exact below_drewN' HB0.out _ | exact below_drewN' (below_drewN' HB0.out _) _⟩
  case round =>
    obtain ⟨rfl, hc, hb⟩ := hrel
    go_wp2
    go_ret
    exact ⟨rfl, hb⟩
end Go.Proofs.Ytamhigknobdloaa
