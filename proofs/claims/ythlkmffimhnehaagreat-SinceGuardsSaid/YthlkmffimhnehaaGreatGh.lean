/- SinceGuards: its run at all numbers; no condition. -/
import Derived.Test.YthlkmffimhnehaaGreatGr0
import Derived.Test.YthlkmffimhnehaaGreatGr1
import Derived.Test.YthlkmffimhnehaaGreatGr2
import Derived.Test.YthlkmffimhnehaaGreatGr3
import Derived.Test.YthlkmffimhnehaaGreatGr4
import Derived.Test.YthlkmffimhnehaaGreatGr5
import Derived.Test.YthlkmffimhnehaaGreatGr6
import Derived.Test.YthlkmffimhnehaaGreatGr7
import Derived.Test.YthlkmffimhnehaaGreatGf0
import Derived.Test.YthlkmffimhnehaaGreatGf1
import Derived.Test.YthlkmffimhnehaaGreatGf2
import Derived.Test.YthlkmffimhnehaaGreatGf3
import Derived.Test.YthlkmffimhnehaaGreatGf4
import Derived.Test.YthlkmffimhnehaaGreatGf5
import Derived.Test.YthlkmffimhnehaaGreatGf6
import Derived.Test.YthlkmffimhnehaaGreatGf7
import Derived.Test.YthlkmffimhnehaaGreatGw
namespace Go.Proofs.YthlkmffimhnehaaGreat
open Go Go.Ev
set_option maxRecDepth 100000
theorem two_in {p q : List AV × AV} (h : Entry callE 40 p) (k : Entry callE 40 q) : ∀ e ∈ [p, q], Entry callE 40 e := by
  intro e he
  rcases List.mem_cons.1 he with he | he
  · rw [he]; exact h
  · rw [List.mem_singleton.1 he]; exact k
theorem all4 (a b c k : Int) (ha : a = 0 ∨ a = 1 ∨ a = 2 ∨ a = 3) (hb : b = 0 ∨ b = 1 ∨ b = 2 ∨ b = 3) (hc : c = 0 ∨ c = 1 ∨ c = 2 ∨ c = 3) (hk : k = 0 ∨ k = 1 ∨ k = 2 ∨ k = 3 ∨ k = 4) :
    ∃ l, (∀ e ∈ l, Entry callE 40 e) ∧ Fin4 l awE a b c k := by
  rcases hk with hk | hk | hk | hk | hk <;> subst hk
  · rcases ha with ha | ha | ha | ha <;> subst ha
    · rcases hb with hb | hb | hb | hb <;> subst hb
      · rcases hc with hc | hc | hc | hc <;> subst hc
        · exact ⟨_, two_in lib_1 (r0_1_1 1), g0_1_1_1⟩
        · exact ⟨_, two_in lib_1 (r0_1_2 1), g0_1_1_2⟩
        · exact ⟨_, two_in lib_1 (r0_1_3 1), g0_1_1_3⟩
        · exact ⟨_, two_in lib_1 (r0_1_4 1), g0_1_1_4⟩
      · rcases hc with hc | hc | hc | hc <;> subst hc
        · exact ⟨_, two_in lib_2 (r0_1_1 2), g0_1_2_1⟩
        · exact ⟨_, two_in lib_2 (r0_1_2 2), g0_1_2_2⟩
        · exact ⟨_, two_in lib_2 (r0_1_3 2), g0_1_2_3⟩
        · exact ⟨_, two_in lib_2 (r0_1_4 2), g0_1_2_4⟩
      · rcases hc with hc | hc | hc | hc <;> subst hc
        · exact ⟨_, two_in lib_3 (r0_1_1 3), g0_1_3_1⟩
        · exact ⟨_, two_in lib_3 (r0_1_2 3), g0_1_3_2⟩
        · exact ⟨_, two_in lib_3 (r0_1_3 3), g0_1_3_3⟩
        · exact ⟨_, two_in lib_3 (r0_1_4 3), g0_1_3_4⟩
      · rcases hc with hc | hc | hc | hc <;> subst hc
        · exact ⟨_, two_in lib_4 (r0_1_1 4), g0_1_4_1⟩
        · exact ⟨_, two_in lib_4 (r0_1_2 4), g0_1_4_2⟩
        · exact ⟨_, two_in lib_4 (r0_1_3 4), g0_1_4_3⟩
        · exact ⟨_, two_in lib_4 (r0_1_4 4), g0_1_4_4⟩
    · rcases hb with hb | hb | hb | hb <;> subst hb
      · rcases hc with hc | hc | hc | hc <;> subst hc
        · exact ⟨_, two_in lib_1 (r0_2_1 1), g0_2_1_1⟩
        · exact ⟨_, two_in lib_1 (r0_2_2 1), g0_2_1_2⟩
        · exact ⟨_, two_in lib_1 (r0_2_3 1), g0_2_1_3⟩
        · exact ⟨_, two_in lib_1 (r0_2_4 1), g0_2_1_4⟩
      · rcases hc with hc | hc | hc | hc <;> subst hc
        · exact ⟨_, two_in lib_2 (r0_2_1 2), g0_2_2_1⟩
        · exact ⟨_, two_in lib_2 (r0_2_2 2), g0_2_2_2⟩
        · exact ⟨_, two_in lib_2 (r0_2_3 2), g0_2_2_3⟩
        · exact ⟨_, two_in lib_2 (r0_2_4 2), g0_2_2_4⟩
      · rcases hc with hc | hc | hc | hc <;> subst hc
        · exact ⟨_, two_in lib_3 (r0_2_1 3), g0_2_3_1⟩
        · exact ⟨_, two_in lib_3 (r0_2_2 3), g0_2_3_2⟩
        · exact ⟨_, two_in lib_3 (r0_2_3 3), g0_2_3_3⟩
        · exact ⟨_, two_in lib_3 (r0_2_4 3), g0_2_3_4⟩
      · rcases hc with hc | hc | hc | hc <;> subst hc
        · exact ⟨_, two_in lib_4 (r0_2_1 4), g0_2_4_1⟩
        · exact ⟨_, two_in lib_4 (r0_2_2 4), g0_2_4_2⟩
        · exact ⟨_, two_in lib_4 (r0_2_3 4), g0_2_4_3⟩
        · exact ⟨_, two_in lib_4 (r0_2_4 4), g0_2_4_4⟩
    · rcases hb with hb | hb | hb | hb <;> subst hb
      · rcases hc with hc | hc | hc | hc <;> subst hc
        · exact ⟨_, two_in lib_1 (r0_3_1 1), g0_3_1_1⟩
        · exact ⟨_, two_in lib_1 (r0_3_2 1), g0_3_1_2⟩
        · exact ⟨_, two_in lib_1 (r0_3_3 1), g0_3_1_3⟩
        · exact ⟨_, two_in lib_1 (r0_3_4 1), g0_3_1_4⟩
      · rcases hc with hc | hc | hc | hc <;> subst hc
        · exact ⟨_, two_in lib_2 (r0_3_1 2), g0_3_2_1⟩
        · exact ⟨_, two_in lib_2 (r0_3_2 2), g0_3_2_2⟩
        · exact ⟨_, two_in lib_2 (r0_3_3 2), g0_3_2_3⟩
        · exact ⟨_, two_in lib_2 (r0_3_4 2), g0_3_2_4⟩
      · rcases hc with hc | hc | hc | hc <;> subst hc
        · exact ⟨_, two_in lib_3 (r0_3_1 3), g0_3_3_1⟩
        · exact ⟨_, two_in lib_3 (r0_3_2 3), g0_3_3_2⟩
        · exact ⟨_, two_in lib_3 (r0_3_3 3), g0_3_3_3⟩
        · exact ⟨_, two_in lib_3 (r0_3_4 3), g0_3_3_4⟩
      · rcases hc with hc | hc | hc | hc <;> subst hc
        · exact ⟨_, two_in lib_4 (r0_3_1 4), g0_3_4_1⟩
        · exact ⟨_, two_in lib_4 (r0_3_2 4), g0_3_4_2⟩
        · exact ⟨_, two_in lib_4 (r0_3_3 4), g0_3_4_3⟩
        · exact ⟨_, two_in lib_4 (r0_3_4 4), g0_3_4_4⟩
    · rcases hb with hb | hb | hb | hb <;> subst hb
      · rcases hc with hc | hc | hc | hc <;> subst hc
        · exact ⟨_, two_in lib_1 (r0_4_1 1), g0_4_1_1⟩
        · exact ⟨_, two_in lib_1 (r0_4_2 1), g0_4_1_2⟩
        · exact ⟨_, two_in lib_1 (r0_4_3 1), g0_4_1_3⟩
        · exact ⟨_, two_in lib_1 (r0_4_4 1), g0_4_1_4⟩
      · rcases hc with hc | hc | hc | hc <;> subst hc
        · exact ⟨_, two_in lib_2 (r0_4_1 2), g0_4_2_1⟩
        · exact ⟨_, two_in lib_2 (r0_4_2 2), g0_4_2_2⟩
        · exact ⟨_, two_in lib_2 (r0_4_3 2), g0_4_2_3⟩
        · exact ⟨_, two_in lib_2 (r0_4_4 2), g0_4_2_4⟩
      · rcases hc with hc | hc | hc | hc <;> subst hc
        · exact ⟨_, two_in lib_3 (r0_4_1 3), g0_4_3_1⟩
        · exact ⟨_, two_in lib_3 (r0_4_2 3), g0_4_3_2⟩
        · exact ⟨_, two_in lib_3 (r0_4_3 3), g0_4_3_3⟩
        · exact ⟨_, two_in lib_3 (r0_4_4 3), g0_4_3_4⟩
      · rcases hc with hc | hc | hc | hc <;> subst hc
        · exact ⟨_, two_in lib_4 (r0_4_1 4), g0_4_4_1⟩
        · exact ⟨_, two_in lib_4 (r0_4_2 4), g0_4_4_2⟩
        · exact ⟨_, two_in lib_4 (r0_4_3 4), g0_4_4_3⟩
        · exact ⟨_, two_in lib_4 (r0_4_4 4), g0_4_4_4⟩
  · rcases ha with ha | ha | ha | ha <;> subst ha
    · rcases hb with hb | hb | hb | hb <;> subst hb
      · rcases hc with hc | hc | hc | hc <;> subst hc
        · exact ⟨_, two_in lib_1 (r1_1_1 1), g1_1_1_1⟩
        · exact ⟨_, two_in lib_1 (r1_1_2 1), g1_1_1_2⟩
        · exact ⟨_, two_in lib_1 (r1_1_3 1), g1_1_1_3⟩
        · exact ⟨_, two_in lib_1 (r1_1_4 1), g1_1_1_4⟩
      · rcases hc with hc | hc | hc | hc <;> subst hc
        · exact ⟨_, two_in lib_2 (r1_1_1 2), g1_1_2_1⟩
        · exact ⟨_, two_in lib_2 (r1_1_2 2), g1_1_2_2⟩
        · exact ⟨_, two_in lib_2 (r1_1_3 2), g1_1_2_3⟩
        · exact ⟨_, two_in lib_2 (r1_1_4 2), g1_1_2_4⟩
      · rcases hc with hc | hc | hc | hc <;> subst hc
        · exact ⟨_, two_in lib_3 (r1_1_1 3), g1_1_3_1⟩
        · exact ⟨_, two_in lib_3 (r1_1_2 3), g1_1_3_2⟩
        · exact ⟨_, two_in lib_3 (r1_1_3 3), g1_1_3_3⟩
        · exact ⟨_, two_in lib_3 (r1_1_4 3), g1_1_3_4⟩
      · rcases hc with hc | hc | hc | hc <;> subst hc
        · exact ⟨_, two_in lib_4 (r1_1_1 4), g1_1_4_1⟩
        · exact ⟨_, two_in lib_4 (r1_1_2 4), g1_1_4_2⟩
        · exact ⟨_, two_in lib_4 (r1_1_3 4), g1_1_4_3⟩
        · exact ⟨_, two_in lib_4 (r1_1_4 4), g1_1_4_4⟩
    · rcases hb with hb | hb | hb | hb <;> subst hb
      · rcases hc with hc | hc | hc | hc <;> subst hc
        · exact ⟨_, two_in lib_1 (r1_2_1 1), g1_2_1_1⟩
        · exact ⟨_, two_in lib_1 (r1_2_2 1), g1_2_1_2⟩
        · exact ⟨_, two_in lib_1 (r1_2_3 1), g1_2_1_3⟩
        · exact ⟨_, two_in lib_1 (r1_2_4 1), g1_2_1_4⟩
      · rcases hc with hc | hc | hc | hc <;> subst hc
        · exact ⟨_, two_in lib_2 (r1_2_1 2), g1_2_2_1⟩
        · exact ⟨_, two_in lib_2 (r1_2_2 2), g1_2_2_2⟩
        · exact ⟨_, two_in lib_2 (r1_2_3 2), g1_2_2_3⟩
        · exact ⟨_, two_in lib_2 (r1_2_4 2), g1_2_2_4⟩
      · rcases hc with hc | hc | hc | hc <;> subst hc
        · exact ⟨_, two_in lib_3 (r1_2_1 3), g1_2_3_1⟩
        · exact ⟨_, two_in lib_3 (r1_2_2 3), g1_2_3_2⟩
        · exact ⟨_, two_in lib_3 (r1_2_3 3), g1_2_3_3⟩
        · exact ⟨_, two_in lib_3 (r1_2_4 3), g1_2_3_4⟩
      · rcases hc with hc | hc | hc | hc <;> subst hc
        · exact ⟨_, two_in lib_4 (r1_2_1 4), g1_2_4_1⟩
        · exact ⟨_, two_in lib_4 (r1_2_2 4), g1_2_4_2⟩
        · exact ⟨_, two_in lib_4 (r1_2_3 4), g1_2_4_3⟩
        · exact ⟨_, two_in lib_4 (r1_2_4 4), g1_2_4_4⟩
    · rcases hb with hb | hb | hb | hb <;> subst hb
      · rcases hc with hc | hc | hc | hc <;> subst hc
        · exact ⟨_, two_in lib_1 (r1_3_1 1), g1_3_1_1⟩
        · exact ⟨_, two_in lib_1 (r1_3_2 1), g1_3_1_2⟩
        · exact ⟨_, two_in lib_1 (r1_3_3 1), g1_3_1_3⟩
        · exact ⟨_, two_in lib_1 (r1_3_4 1), g1_3_1_4⟩
      · rcases hc with hc | hc | hc | hc <;> subst hc
        · exact ⟨_, two_in lib_2 (r1_3_1 2), g1_3_2_1⟩
        · exact ⟨_, two_in lib_2 (r1_3_2 2), g1_3_2_2⟩
        · exact ⟨_, two_in lib_2 (r1_3_3 2), g1_3_2_3⟩
        · exact ⟨_, two_in lib_2 (r1_3_4 2), g1_3_2_4⟩
      · rcases hc with hc | hc | hc | hc <;> subst hc
        · exact ⟨_, two_in lib_3 (r1_3_1 3), g1_3_3_1⟩
        · exact ⟨_, two_in lib_3 (r1_3_2 3), g1_3_3_2⟩
        · exact ⟨_, two_in lib_3 (r1_3_3 3), g1_3_3_3⟩
        · exact ⟨_, two_in lib_3 (r1_3_4 3), g1_3_3_4⟩
      · rcases hc with hc | hc | hc | hc <;> subst hc
        · exact ⟨_, two_in lib_4 (r1_3_1 4), g1_3_4_1⟩
        · exact ⟨_, two_in lib_4 (r1_3_2 4), g1_3_4_2⟩
        · exact ⟨_, two_in lib_4 (r1_3_3 4), g1_3_4_3⟩
        · exact ⟨_, two_in lib_4 (r1_3_4 4), g1_3_4_4⟩
    · rcases hb with hb | hb | hb | hb <;> subst hb
      · rcases hc with hc | hc | hc | hc <;> subst hc
        · exact ⟨_, two_in lib_1 (r1_4_1 1), g1_4_1_1⟩
        · exact ⟨_, two_in lib_1 (r1_4_2 1), g1_4_1_2⟩
        · exact ⟨_, two_in lib_1 (r1_4_3 1), g1_4_1_3⟩
        · exact ⟨_, two_in lib_1 (r1_4_4 1), g1_4_1_4⟩
      · rcases hc with hc | hc | hc | hc <;> subst hc
        · exact ⟨_, two_in lib_2 (r1_4_1 2), g1_4_2_1⟩
        · exact ⟨_, two_in lib_2 (r1_4_2 2), g1_4_2_2⟩
        · exact ⟨_, two_in lib_2 (r1_4_3 2), g1_4_2_3⟩
        · exact ⟨_, two_in lib_2 (r1_4_4 2), g1_4_2_4⟩
      · rcases hc with hc | hc | hc | hc <;> subst hc
        · exact ⟨_, two_in lib_3 (r1_4_1 3), g1_4_3_1⟩
        · exact ⟨_, two_in lib_3 (r1_4_2 3), g1_4_3_2⟩
        · exact ⟨_, two_in lib_3 (r1_4_3 3), g1_4_3_3⟩
        · exact ⟨_, two_in lib_3 (r1_4_4 3), g1_4_3_4⟩
      · rcases hc with hc | hc | hc | hc <;> subst hc
        · exact ⟨_, two_in lib_4 (r1_4_1 4), g1_4_4_1⟩
        · exact ⟨_, two_in lib_4 (r1_4_2 4), g1_4_4_2⟩
        · exact ⟨_, two_in lib_4 (r1_4_3 4), g1_4_4_3⟩
        · exact ⟨_, two_in lib_4 (r1_4_4 4), g1_4_4_4⟩
  · rcases ha with ha | ha | ha | ha <;> subst ha
    · rcases hb with hb | hb | hb | hb <;> subst hb
      · rcases hc with hc | hc | hc | hc <;> subst hc
        · exact ⟨_, two_in lib_1 (r2_1_1 1), g2_1_1_1⟩
        · exact ⟨_, two_in lib_1 (r2_1_2 1), g2_1_1_2⟩
        · exact ⟨_, two_in lib_1 (r2_1_3 1), g2_1_1_3⟩
        · exact ⟨_, two_in lib_1 (r2_1_4 1), g2_1_1_4⟩
      · rcases hc with hc | hc | hc | hc <;> subst hc
        · exact ⟨_, two_in lib_2 (r2_1_1 2), g2_1_2_1⟩
        · exact ⟨_, two_in lib_2 (r2_1_2 2), g2_1_2_2⟩
        · exact ⟨_, two_in lib_2 (r2_1_3 2), g2_1_2_3⟩
        · exact ⟨_, two_in lib_2 (r2_1_4 2), g2_1_2_4⟩
      · rcases hc with hc | hc | hc | hc <;> subst hc
        · exact ⟨_, two_in lib_3 (r2_1_1 3), g2_1_3_1⟩
        · exact ⟨_, two_in lib_3 (r2_1_2 3), g2_1_3_2⟩
        · exact ⟨_, two_in lib_3 (r2_1_3 3), g2_1_3_3⟩
        · exact ⟨_, two_in lib_3 (r2_1_4 3), g2_1_3_4⟩
      · rcases hc with hc | hc | hc | hc <;> subst hc
        · exact ⟨_, two_in lib_4 (r2_1_1 4), g2_1_4_1⟩
        · exact ⟨_, two_in lib_4 (r2_1_2 4), g2_1_4_2⟩
        · exact ⟨_, two_in lib_4 (r2_1_3 4), g2_1_4_3⟩
        · exact ⟨_, two_in lib_4 (r2_1_4 4), g2_1_4_4⟩
    · rcases hb with hb | hb | hb | hb <;> subst hb
      · rcases hc with hc | hc | hc | hc <;> subst hc
        · exact ⟨_, two_in lib_1 (r2_2_1 1), g2_2_1_1⟩
        · exact ⟨_, two_in lib_1 (r2_2_2 1), g2_2_1_2⟩
        · exact ⟨_, two_in lib_1 (r2_2_3 1), g2_2_1_3⟩
        · exact ⟨_, two_in lib_1 (r2_2_4 1), g2_2_1_4⟩
      · rcases hc with hc | hc | hc | hc <;> subst hc
        · exact ⟨_, two_in lib_2 (r2_2_1 2), g2_2_2_1⟩
        · exact ⟨_, two_in lib_2 (r2_2_2 2), g2_2_2_2⟩
        · exact ⟨_, two_in lib_2 (r2_2_3 2), g2_2_2_3⟩
        · exact ⟨_, two_in lib_2 (r2_2_4 2), g2_2_2_4⟩
      · rcases hc with hc | hc | hc | hc <;> subst hc
        · exact ⟨_, two_in lib_3 (r2_2_1 3), g2_2_3_1⟩
        · exact ⟨_, two_in lib_3 (r2_2_2 3), g2_2_3_2⟩
        · exact ⟨_, two_in lib_3 (r2_2_3 3), g2_2_3_3⟩
        · exact ⟨_, two_in lib_3 (r2_2_4 3), g2_2_3_4⟩
      · rcases hc with hc | hc | hc | hc <;> subst hc
        · exact ⟨_, two_in lib_4 (r2_2_1 4), g2_2_4_1⟩
        · exact ⟨_, two_in lib_4 (r2_2_2 4), g2_2_4_2⟩
        · exact ⟨_, two_in lib_4 (r2_2_3 4), g2_2_4_3⟩
        · exact ⟨_, two_in lib_4 (r2_2_4 4), g2_2_4_4⟩
    · rcases hb with hb | hb | hb | hb <;> subst hb
      · rcases hc with hc | hc | hc | hc <;> subst hc
        · exact ⟨_, two_in lib_1 (r2_3_1 1), g2_3_1_1⟩
        · exact ⟨_, two_in lib_1 (r2_3_2 1), g2_3_1_2⟩
        · exact ⟨_, two_in lib_1 (r2_3_3 1), g2_3_1_3⟩
        · exact ⟨_, two_in lib_1 (r2_3_4 1), g2_3_1_4⟩
      · rcases hc with hc | hc | hc | hc <;> subst hc
        · exact ⟨_, two_in lib_2 (r2_3_1 2), g2_3_2_1⟩
        · exact ⟨_, two_in lib_2 (r2_3_2 2), g2_3_2_2⟩
        · exact ⟨_, two_in lib_2 (r2_3_3 2), g2_3_2_3⟩
        · exact ⟨_, two_in lib_2 (r2_3_4 2), g2_3_2_4⟩
      · rcases hc with hc | hc | hc | hc <;> subst hc
        · exact ⟨_, two_in lib_3 (r2_3_1 3), g2_3_3_1⟩
        · exact ⟨_, two_in lib_3 (r2_3_2 3), g2_3_3_2⟩
        · exact ⟨_, two_in lib_3 (r2_3_3 3), g2_3_3_3⟩
        · exact ⟨_, two_in lib_3 (r2_3_4 3), g2_3_3_4⟩
      · rcases hc with hc | hc | hc | hc <;> subst hc
        · exact ⟨_, two_in lib_4 (r2_3_1 4), g2_3_4_1⟩
        · exact ⟨_, two_in lib_4 (r2_3_2 4), g2_3_4_2⟩
        · exact ⟨_, two_in lib_4 (r2_3_3 4), g2_3_4_3⟩
        · exact ⟨_, two_in lib_4 (r2_3_4 4), g2_3_4_4⟩
    · rcases hb with hb | hb | hb | hb <;> subst hb
      · rcases hc with hc | hc | hc | hc <;> subst hc
        · exact ⟨_, two_in lib_1 (r2_4_1 1), g2_4_1_1⟩
        · exact ⟨_, two_in lib_1 (r2_4_2 1), g2_4_1_2⟩
        · exact ⟨_, two_in lib_1 (r2_4_3 1), g2_4_1_3⟩
        · exact ⟨_, two_in lib_1 (r2_4_4 1), g2_4_1_4⟩
      · rcases hc with hc | hc | hc | hc <;> subst hc
        · exact ⟨_, two_in lib_2 (r2_4_1 2), g2_4_2_1⟩
        · exact ⟨_, two_in lib_2 (r2_4_2 2), g2_4_2_2⟩
        · exact ⟨_, two_in lib_2 (r2_4_3 2), g2_4_2_3⟩
        · exact ⟨_, two_in lib_2 (r2_4_4 2), g2_4_2_4⟩
      · rcases hc with hc | hc | hc | hc <;> subst hc
        · exact ⟨_, two_in lib_3 (r2_4_1 3), g2_4_3_1⟩
        · exact ⟨_, two_in lib_3 (r2_4_2 3), g2_4_3_2⟩
        · exact ⟨_, two_in lib_3 (r2_4_3 3), g2_4_3_3⟩
        · exact ⟨_, two_in lib_3 (r2_4_4 3), g2_4_3_4⟩
      · rcases hc with hc | hc | hc | hc <;> subst hc
        · exact ⟨_, two_in lib_4 (r2_4_1 4), g2_4_4_1⟩
        · exact ⟨_, two_in lib_4 (r2_4_2 4), g2_4_4_2⟩
        · exact ⟨_, two_in lib_4 (r2_4_3 4), g2_4_4_3⟩
        · exact ⟨_, two_in lib_4 (r2_4_4 4), g2_4_4_4⟩
  · rcases ha with ha | ha | ha | ha <;> subst ha
    · rcases hb with hb | hb | hb | hb <;> subst hb
      · rcases hc with hc | hc | hc | hc <;> subst hc
        · exact ⟨_, two_in lib_1 (r3_1_1 1), g3_1_1_1⟩
        · exact ⟨_, two_in lib_1 (r3_1_2 1), g3_1_1_2⟩
        · exact ⟨_, two_in lib_1 (r3_1_3 1), g3_1_1_3⟩
        · exact ⟨_, two_in lib_1 (r3_1_4 1), g3_1_1_4⟩
      · rcases hc with hc | hc | hc | hc <;> subst hc
        · exact ⟨_, two_in lib_2 (r3_1_1 2), g3_1_2_1⟩
        · exact ⟨_, two_in lib_2 (r3_1_2 2), g3_1_2_2⟩
        · exact ⟨_, two_in lib_2 (r3_1_3 2), g3_1_2_3⟩
        · exact ⟨_, two_in lib_2 (r3_1_4 2), g3_1_2_4⟩
      · rcases hc with hc | hc | hc | hc <;> subst hc
        · exact ⟨_, two_in lib_3 (r3_1_1 3), g3_1_3_1⟩
        · exact ⟨_, two_in lib_3 (r3_1_2 3), g3_1_3_2⟩
        · exact ⟨_, two_in lib_3 (r3_1_3 3), g3_1_3_3⟩
        · exact ⟨_, two_in lib_3 (r3_1_4 3), g3_1_3_4⟩
      · rcases hc with hc | hc | hc | hc <;> subst hc
        · exact ⟨_, two_in lib_4 (r3_1_1 4), g3_1_4_1⟩
        · exact ⟨_, two_in lib_4 (r3_1_2 4), g3_1_4_2⟩
        · exact ⟨_, two_in lib_4 (r3_1_3 4), g3_1_4_3⟩
        · exact ⟨_, two_in lib_4 (r3_1_4 4), g3_1_4_4⟩
    · rcases hb with hb | hb | hb | hb <;> subst hb
      · rcases hc with hc | hc | hc | hc <;> subst hc
        · exact ⟨_, two_in lib_1 (r3_2_1 1), g3_2_1_1⟩
        · exact ⟨_, two_in lib_1 (r3_2_2 1), g3_2_1_2⟩
        · exact ⟨_, two_in lib_1 (r3_2_3 1), g3_2_1_3⟩
        · exact ⟨_, two_in lib_1 (r3_2_4 1), g3_2_1_4⟩
      · rcases hc with hc | hc | hc | hc <;> subst hc
        · exact ⟨_, two_in lib_2 (r3_2_1 2), g3_2_2_1⟩
        · exact ⟨_, two_in lib_2 (r3_2_2 2), g3_2_2_2⟩
        · exact ⟨_, two_in lib_2 (r3_2_3 2), g3_2_2_3⟩
        · exact ⟨_, two_in lib_2 (r3_2_4 2), g3_2_2_4⟩
      · rcases hc with hc | hc | hc | hc <;> subst hc
        · exact ⟨_, two_in lib_3 (r3_2_1 3), g3_2_3_1⟩
        · exact ⟨_, two_in lib_3 (r3_2_2 3), g3_2_3_2⟩
        · exact ⟨_, two_in lib_3 (r3_2_3 3), g3_2_3_3⟩
        · exact ⟨_, two_in lib_3 (r3_2_4 3), g3_2_3_4⟩
      · rcases hc with hc | hc | hc | hc <;> subst hc
        · exact ⟨_, two_in lib_4 (r3_2_1 4), g3_2_4_1⟩
        · exact ⟨_, two_in lib_4 (r3_2_2 4), g3_2_4_2⟩
        · exact ⟨_, two_in lib_4 (r3_2_3 4), g3_2_4_3⟩
        · exact ⟨_, two_in lib_4 (r3_2_4 4), g3_2_4_4⟩
    · rcases hb with hb | hb | hb | hb <;> subst hb
      · rcases hc with hc | hc | hc | hc <;> subst hc
        · exact ⟨_, two_in lib_1 (r3_3_1 1), g3_3_1_1⟩
        · exact ⟨_, two_in lib_1 (r3_3_2 1), g3_3_1_2⟩
        · exact ⟨_, two_in lib_1 (r3_3_3 1), g3_3_1_3⟩
        · exact ⟨_, two_in lib_1 (r3_3_4 1), g3_3_1_4⟩
      · rcases hc with hc | hc | hc | hc <;> subst hc
        · exact ⟨_, two_in lib_2 (r3_3_1 2), g3_3_2_1⟩
        · exact ⟨_, two_in lib_2 (r3_3_2 2), g3_3_2_2⟩
        · exact ⟨_, two_in lib_2 (r3_3_3 2), g3_3_2_3⟩
        · exact ⟨_, two_in lib_2 (r3_3_4 2), g3_3_2_4⟩
      · rcases hc with hc | hc | hc | hc <;> subst hc
        · exact ⟨_, two_in lib_3 (r3_3_1 3), g3_3_3_1⟩
        · exact ⟨_, two_in lib_3 (r3_3_2 3), g3_3_3_2⟩
        · exact ⟨_, two_in lib_3 (r3_3_3 3), g3_3_3_3⟩
        · exact ⟨_, two_in lib_3 (r3_3_4 3), g3_3_3_4⟩
      · rcases hc with hc | hc | hc | hc <;> subst hc
        · exact ⟨_, two_in lib_4 (r3_3_1 4), g3_3_4_1⟩
        · exact ⟨_, two_in lib_4 (r3_3_2 4), g3_3_4_2⟩
        · exact ⟨_, two_in lib_4 (r3_3_3 4), g3_3_4_3⟩
        · exact ⟨_, two_in lib_4 (r3_3_4 4), g3_3_4_4⟩
    · rcases hb with hb | hb | hb | hb <;> subst hb
      · rcases hc with hc | hc | hc | hc <;> subst hc
        · exact ⟨_, two_in lib_1 (r3_4_1 1), g3_4_1_1⟩
        · exact ⟨_, two_in lib_1 (r3_4_2 1), g3_4_1_2⟩
        · exact ⟨_, two_in lib_1 (r3_4_3 1), g3_4_1_3⟩
        · exact ⟨_, two_in lib_1 (r3_4_4 1), g3_4_1_4⟩
      · rcases hc with hc | hc | hc | hc <;> subst hc
        · exact ⟨_, two_in lib_2 (r3_4_1 2), g3_4_2_1⟩
        · exact ⟨_, two_in lib_2 (r3_4_2 2), g3_4_2_2⟩
        · exact ⟨_, two_in lib_2 (r3_4_3 2), g3_4_2_3⟩
        · exact ⟨_, two_in lib_2 (r3_4_4 2), g3_4_2_4⟩
      · rcases hc with hc | hc | hc | hc <;> subst hc
        · exact ⟨_, two_in lib_3 (r3_4_1 3), g3_4_3_1⟩
        · exact ⟨_, two_in lib_3 (r3_4_2 3), g3_4_3_2⟩
        · exact ⟨_, two_in lib_3 (r3_4_3 3), g3_4_3_3⟩
        · exact ⟨_, two_in lib_3 (r3_4_4 3), g3_4_3_4⟩
      · rcases hc with hc | hc | hc | hc <;> subst hc
        · exact ⟨_, two_in lib_4 (r3_4_1 4), g3_4_4_1⟩
        · exact ⟨_, two_in lib_4 (r3_4_2 4), g3_4_4_2⟩
        · exact ⟨_, two_in lib_4 (r3_4_3 4), g3_4_4_3⟩
        · exact ⟨_, two_in lib_4 (r3_4_4 4), g3_4_4_4⟩
  · rcases ha with ha | ha | ha | ha <;> subst ha
    · rcases hb with hb | hb | hb | hb <;> subst hb
      · rcases hc with hc | hc | hc | hc <;> subst hc
        · exact ⟨_, two_in lib_1 (r4_1_1 1), g4_1_1_1⟩
        · exact ⟨_, two_in lib_1 (r4_1_1 1), g4_1_1_2⟩
        · exact ⟨_, two_in lib_1 (r4_1_1 1), g4_1_1_3⟩
        · exact ⟨_, two_in lib_1 (r4_1_1 1), g4_1_1_4⟩
      · rcases hc with hc | hc | hc | hc <;> subst hc
        · exact ⟨_, two_in lib_2 (r4_1_1 2), g4_1_2_1⟩
        · exact ⟨_, two_in lib_2 (r4_1_1 2), g4_1_2_2⟩
        · exact ⟨_, two_in lib_2 (r4_1_1 2), g4_1_2_3⟩
        · exact ⟨_, two_in lib_2 (r4_1_1 2), g4_1_2_4⟩
      · rcases hc with hc | hc | hc | hc <;> subst hc
        · exact ⟨_, two_in lib_3 (r4_1_1 3), g4_1_3_1⟩
        · exact ⟨_, two_in lib_3 (r4_1_1 3), g4_1_3_2⟩
        · exact ⟨_, two_in lib_3 (r4_1_1 3), g4_1_3_3⟩
        · exact ⟨_, two_in lib_3 (r4_1_1 3), g4_1_3_4⟩
      · rcases hc with hc | hc | hc | hc <;> subst hc
        · exact ⟨_, two_in lib_4 (r4_1_1 4), g4_1_4_1⟩
        · exact ⟨_, two_in lib_4 (r4_1_1 4), g4_1_4_2⟩
        · exact ⟨_, two_in lib_4 (r4_1_1 4), g4_1_4_3⟩
        · exact ⟨_, two_in lib_4 (r4_1_1 4), g4_1_4_4⟩
    · rcases hb with hb | hb | hb | hb <;> subst hb
      · rcases hc with hc | hc | hc | hc <;> subst hc
        · exact ⟨_, two_in lib_1 (r4_2_1 1), g4_2_1_1⟩
        · exact ⟨_, two_in lib_1 (r4_2_1 1), g4_2_1_2⟩
        · exact ⟨_, two_in lib_1 (r4_2_1 1), g4_2_1_3⟩
        · exact ⟨_, two_in lib_1 (r4_2_1 1), g4_2_1_4⟩
      · rcases hc with hc | hc | hc | hc <;> subst hc
        · exact ⟨_, two_in lib_2 (r4_2_1 2), g4_2_2_1⟩
        · exact ⟨_, two_in lib_2 (r4_2_1 2), g4_2_2_2⟩
        · exact ⟨_, two_in lib_2 (r4_2_1 2), g4_2_2_3⟩
        · exact ⟨_, two_in lib_2 (r4_2_1 2), g4_2_2_4⟩
      · rcases hc with hc | hc | hc | hc <;> subst hc
        · exact ⟨_, two_in lib_3 (r4_2_1 3), g4_2_3_1⟩
        · exact ⟨_, two_in lib_3 (r4_2_1 3), g4_2_3_2⟩
        · exact ⟨_, two_in lib_3 (r4_2_1 3), g4_2_3_3⟩
        · exact ⟨_, two_in lib_3 (r4_2_1 3), g4_2_3_4⟩
      · rcases hc with hc | hc | hc | hc <;> subst hc
        · exact ⟨_, two_in lib_4 (r4_2_1 4), g4_2_4_1⟩
        · exact ⟨_, two_in lib_4 (r4_2_1 4), g4_2_4_2⟩
        · exact ⟨_, two_in lib_4 (r4_2_1 4), g4_2_4_3⟩
        · exact ⟨_, two_in lib_4 (r4_2_1 4), g4_2_4_4⟩
    · rcases hb with hb | hb | hb | hb <;> subst hb
      · rcases hc with hc | hc | hc | hc <;> subst hc
        · exact ⟨_, two_in lib_1 (r4_3_1 1), g4_3_1_1⟩
        · exact ⟨_, two_in lib_1 (r4_3_1 1), g4_3_1_2⟩
        · exact ⟨_, two_in lib_1 (r4_3_1 1), g4_3_1_3⟩
        · exact ⟨_, two_in lib_1 (r4_3_1 1), g4_3_1_4⟩
      · rcases hc with hc | hc | hc | hc <;> subst hc
        · exact ⟨_, two_in lib_2 (r4_3_1 2), g4_3_2_1⟩
        · exact ⟨_, two_in lib_2 (r4_3_1 2), g4_3_2_2⟩
        · exact ⟨_, two_in lib_2 (r4_3_1 2), g4_3_2_3⟩
        · exact ⟨_, two_in lib_2 (r4_3_1 2), g4_3_2_4⟩
      · rcases hc with hc | hc | hc | hc <;> subst hc
        · exact ⟨_, two_in lib_3 (r4_3_1 3), g4_3_3_1⟩
        · exact ⟨_, two_in lib_3 (r4_3_1 3), g4_3_3_2⟩
        · exact ⟨_, two_in lib_3 (r4_3_1 3), g4_3_3_3⟩
        · exact ⟨_, two_in lib_3 (r4_3_1 3), g4_3_3_4⟩
      · rcases hc with hc | hc | hc | hc <;> subst hc
        · exact ⟨_, two_in lib_4 (r4_3_1 4), g4_3_4_1⟩
        · exact ⟨_, two_in lib_4 (r4_3_1 4), g4_3_4_2⟩
        · exact ⟨_, two_in lib_4 (r4_3_1 4), g4_3_4_3⟩
        · exact ⟨_, two_in lib_4 (r4_3_1 4), g4_3_4_4⟩
    · rcases hb with hb | hb | hb | hb <;> subst hb
      · rcases hc with hc | hc | hc | hc <;> subst hc
        · exact ⟨_, two_in lib_1 (r4_4_1 1), g4_4_1_1⟩
        · exact ⟨_, two_in lib_1 (r4_4_1 1), g4_4_1_2⟩
        · exact ⟨_, two_in lib_1 (r4_4_1 1), g4_4_1_3⟩
        · exact ⟨_, two_in lib_1 (r4_4_1 1), g4_4_1_4⟩
      · rcases hc with hc | hc | hc | hc <;> subst hc
        · exact ⟨_, two_in lib_2 (r4_4_1 2), g4_4_2_1⟩
        · exact ⟨_, two_in lib_2 (r4_4_1 2), g4_4_2_2⟩
        · exact ⟨_, two_in lib_2 (r4_4_1 2), g4_4_2_3⟩
        · exact ⟨_, two_in lib_2 (r4_4_1 2), g4_4_2_4⟩
      · rcases hc with hc | hc | hc | hc <;> subst hc
        · exact ⟨_, two_in lib_3 (r4_4_1 3), g4_4_3_1⟩
        · exact ⟨_, two_in lib_3 (r4_4_1 3), g4_4_3_2⟩
        · exact ⟨_, two_in lib_3 (r4_4_1 3), g4_4_3_3⟩
        · exact ⟨_, two_in lib_3 (r4_4_1 3), g4_4_3_4⟩
      · rcases hc with hc | hc | hc | hc <;> subst hc
        · exact ⟨_, two_in lib_4 (r4_4_1 4), g4_4_4_1⟩
        · exact ⟨_, two_in lib_4 (r4_4_1 4), g4_4_4_2⟩
        · exact ⟨_, two_in lib_4 (r4_4_1 4), g4_4_4_3⟩
        · exact ⟨_, two_in lib_4 (r4_4_1 4), g4_4_4_4⟩
end Go.Proofs.YthlkmffimhnehaaGreat
