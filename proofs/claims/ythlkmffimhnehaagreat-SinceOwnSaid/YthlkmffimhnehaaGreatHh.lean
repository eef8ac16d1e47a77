/- SinceOwn: its run at all numbers; no condition. -/
import Derived.Test.YthlkmffimhnehaaGreatHo0
import Derived.Test.YthlkmffimhnehaaGreatHo1
import Derived.Test.YthlkmffimhnehaaGreatHo2
import Derived.Test.YthlkmffimhnehaaGreatHo3
import Derived.Test.YthlkmffimhnehaaGreatHo4
import Derived.Test.YthlkmffimhnehaaGreatHo5
import Derived.Test.YthlkmffimhnehaaGreatHo6
import Derived.Test.YthlkmffimhnehaaGreatHo7
import Derived.Test.YthlkmffimhnehaaGreatHo8
import Derived.Test.YthlkmffimhnehaaGreatHo9
import Derived.Test.YthlkmffimhnehaaGreatHo10
import Derived.Test.YthlkmffimhnehaaGreatHo11
import Derived.Test.YthlkmffimhnehaaGreatHo12
import Derived.Test.YthlkmffimhnehaaGreatHo13
import Derived.Test.YthlkmffimhnehaaGreatGw
namespace Go.Proofs.YthlkmffimhnehaaGreat
open Go Go.Ev
set_option maxRecDepth 100000
theorem all6 (a b k : Int) (ha : a = 0 ∨ a = 1 ∨ a = 2 ∨ a = 3) (hb : b = 0 ∨ b = 1 ∨ b = 2 ∨ b = 3) (hk : k = 0 ∨ k = 1 ∨ k = 2 ∨ k = 3 ∨ k = 4 ∨ k = 5 ∨ k = 6) :
    ∃ l, (∀ e ∈ l, Entry (callN envX 100000 200) 40 e) ∧ Fin6 l [([], .bool true)] a b k := by
  refine ⟨[], (fun e he => by cases he), ?_⟩
  rcases hk with hk | hk | hk | hk | hk | hk | hk <;> subst hk
  · rcases ha with ha | ha | ha | ha <;> subst ha
    · rcases hb with hb | hb | hb | hb <;> subst hb
      · exact o0_0_0
      · exact o0_0_1
      · exact o0_0_2
      · exact o0_0_3
    · rcases hb with hb | hb | hb | hb <;> subst hb
      · exact o0_1_0
      · exact o0_1_1
      · exact o0_1_2
      · exact o0_1_3
    · rcases hb with hb | hb | hb | hb <;> subst hb
      · exact o0_2_0
      · exact o0_2_1
      · exact o0_2_2
      · exact o0_2_3
    · rcases hb with hb | hb | hb | hb <;> subst hb
      · exact o0_3_0
      · exact o0_3_1
      · exact o0_3_2
      · exact o0_3_3
  · rcases ha with ha | ha | ha | ha <;> subst ha
    · rcases hb with hb | hb | hb | hb <;> subst hb
      · exact o1_0_0
      · exact o1_0_1
      · exact o1_0_2
      · exact o1_0_3
    · rcases hb with hb | hb | hb | hb <;> subst hb
      · exact o1_1_0
      · exact o1_1_1
      · exact o1_1_2
      · exact o1_1_3
    · rcases hb with hb | hb | hb | hb <;> subst hb
      · exact o1_2_0
      · exact o1_2_1
      · exact o1_2_2
      · exact o1_2_3
    · rcases hb with hb | hb | hb | hb <;> subst hb
      · exact o1_3_0
      · exact o1_3_1
      · exact o1_3_2
      · exact o1_3_3
  · rcases ha with ha | ha | ha | ha <;> subst ha
    · rcases hb with hb | hb | hb | hb <;> subst hb
      · exact o2_0_0
      · exact o2_0_1
      · exact o2_0_2
      · exact o2_0_3
    · rcases hb with hb | hb | hb | hb <;> subst hb
      · exact o2_1_0
      · exact o2_1_1
      · exact o2_1_2
      · exact o2_1_3
    · rcases hb with hb | hb | hb | hb <;> subst hb
      · exact o2_2_0
      · exact o2_2_1
      · exact o2_2_2
      · exact o2_2_3
    · rcases hb with hb | hb | hb | hb <;> subst hb
      · exact o2_3_0
      · exact o2_3_1
      · exact o2_3_2
      · exact o2_3_3
  · rcases ha with ha | ha | ha | ha <;> subst ha
    · rcases hb with hb | hb | hb | hb <;> subst hb
      · exact o3_0_0
      · exact o3_0_1
      · exact o3_0_2
      · exact o3_0_3
    · rcases hb with hb | hb | hb | hb <;> subst hb
      · exact o3_1_0
      · exact o3_1_1
      · exact o3_1_2
      · exact o3_1_3
    · rcases hb with hb | hb | hb | hb <;> subst hb
      · exact o3_2_0
      · exact o3_2_1
      · exact o3_2_2
      · exact o3_2_3
    · rcases hb with hb | hb | hb | hb <;> subst hb
      · exact o3_3_0
      · exact o3_3_1
      · exact o3_3_2
      · exact o3_3_3
  · rcases ha with ha | ha | ha | ha <;> subst ha
    · rcases hb with hb | hb | hb | hb <;> subst hb
      · exact o4_0_0
      · exact o4_0_1
      · exact o4_0_2
      · exact o4_0_3
    · rcases hb with hb | hb | hb | hb <;> subst hb
      · exact o4_1_0
      · exact o4_1_1
      · exact o4_1_2
      · exact o4_1_3
    · rcases hb with hb | hb | hb | hb <;> subst hb
      · exact o4_2_0
      · exact o4_2_1
      · exact o4_2_2
      · exact o4_2_3
    · rcases hb with hb | hb | hb | hb <;> subst hb
      · exact o4_3_0
      · exact o4_3_1
      · exact o4_3_2
      · exact o4_3_3
  · rcases ha with ha | ha | ha | ha <;> subst ha
    · rcases hb with hb | hb | hb | hb <;> subst hb
      · exact o5_0_0
      · exact o5_0_1
      · exact o5_0_2
      · exact o5_0_3
    · rcases hb with hb | hb | hb | hb <;> subst hb
      · exact o5_1_0
      · exact o5_1_1
      · exact o5_1_2
      · exact o5_1_3
    · rcases hb with hb | hb | hb | hb <;> subst hb
      · exact o5_2_0
      · exact o5_2_1
      · exact o5_2_2
      · exact o5_2_3
    · rcases hb with hb | hb | hb | hb <;> subst hb
      · exact o5_3_0
      · exact o5_3_1
      · exact o5_3_2
      · exact o5_3_3
  · rcases ha with ha | ha | ha | ha <;> subst ha
    · rcases hb with hb | hb | hb | hb <;> subst hb
      · exact o6_0_0
      · exact o6_0_1
      · exact o6_0_2
      · exact o6_0_3
    · rcases hb with hb | hb | hb | hb <;> subst hb
      · exact o6_1_0
      · exact o6_1_1
      · exact o6_1_2
      · exact o6_1_3
    · rcases hb with hb | hb | hb | hb <;> subst hb
      · exact o6_2_0
      · exact o6_2_1
      · exact o6_2_2
      · exact o6_2_3
    · rcases hb with hb | hb | hb | hb <;> subst hb
      · exact o6_3_0
      · exact o6_3_1
      · exact o6_3_2
      · exact o6_3_3
end Go.Proofs.YthlkmffimhnehaaGreat
