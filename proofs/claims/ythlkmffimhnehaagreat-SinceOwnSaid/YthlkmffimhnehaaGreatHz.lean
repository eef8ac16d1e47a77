/- SinceOwn: its run, cut where the numbers have been reduced; no condition. -/
import Derived.Test.YthlkmffimhnehaaGreatMi
namespace Go.Proofs.YthlkmffimhnehaaGreat
open Go Go.Ev Go.RowKit
set_option maxRecDepth 100000
noncomputable section
def A6 (h n p : Int) : Tr AV := argsT [.int .u8 h, .int .u8 n, .int .i64 p] 0 .nil
def T6 (h n p a b : Int) : Tr AV := (((((((((((A6 h n p).set 6 (.bool false)).set 18 (.int .u8 h)).set 19 (.int .u8 a)).set 20 (.int .i64 (IntKind.i64.wrap a))).set 21 (.int .i64 (upA a))).set 22 (.int .u8 n)).set 23 (.int .u8 b)).set 24 (.int .i64 (IntKind.i64.wrap b))).set 25 (.int .i64 (upA b))).set 7 (.int .i64 (upA a))).set 8 (.int .i64 (upA b))
def b61 : XC := tl x6.body
def b62 : XC := tl b61
def b63 : XC := tl b62
def b64 : XC := tl b63
def b65 : XC := tl b64
def b66 : XC := tl b65
def b67 : XC := tl b66
theorem e60 : x6.body = .seq (hd x6.body) b61 := by kernel_rfl
theorem e61 : b61 = .seq (hd b61) b62 := by kernel_rfl
theorem e62 : b62 = .seq (hd b62) b63 := by kernel_rfl
theorem e63 : b63 = .seq (hd b63) b64 := by kernel_rfl
theorem e64 : b64 = .seq (hd b64) b65 := by kernel_rfl
theorem e65 : b65 = .seq (hd b65) b66 := by kernel_rfl
theorem e66 : b66 = .seq (hd b66) b67 := by kernel_rfl
theorem f6_head (call : Cal) (h n p : Int) (st : St) : execX call 100000 x6.body (A6 h n p) st = execX call 100000 b62 (T6 h n p (h.tmod 4) (n.tmod 4)) st := by
  refine (cut1 e60 (tm' := (A6 h n p).set 6 (.bool false)) (st' := st) (by kernel_rfl)).trans ?_
  exact cut1 e61 (tm' := T6 h n p (h.tmod 4) (n.tmod 4)) (by kernel_rfl)
def O2 (l m : List (List AV × AV)) (h n p a b : Int) : Tr AV := getTm (execX (call4 l m) 100000 (hd b62) (T6 h n p a b) ⟨.nil, 0⟩)
def O3 (l m : List (List AV × AV)) (h n p a b : Int) : Tr AV := getTm (execX (call4 l m) 100000 (hd b63) (O2 l m h n p a b) ⟨.nil, 0⟩)
def O4 (l m : List (List AV × AV)) (h n p a b : Int) : Tr AV := getTm (execX (call4 l m) 100000 (hd b64) (O3 l m h n p a b) ⟨.nil, 0⟩)
def O5 (l m : List (List AV × AV)) (h n p a b : Int) : Tr AV := getTm (execX (call4 l m) 100000 (hd b65) (O4 l m h n p a b) ⟨.nil, 0⟩)
def O6 (l m : List (List AV × AV)) (h n p a b k : Int) : Tr AV := (((((O5 l m h n p a b).set 49 (.int .i64 p)).set 50 (evX (O5 l m h n p a b) (.t 12))).set 51 (.int .i64 7)).set 52 (.int .i64 k)).set 13 (.int .i64 k)
theorem f6_mid_of (l m : List (List AV × AV)) (h n p a b : Int)
    (h2 : execX (call4 l m) 100000 (hd b62) (T6 h n p a b) ⟨.nil, 0⟩ = .ok .norm (O2 l m h n p a b) ⟨.nil, 0⟩)
    (h3 : execX (call4 l m) 100000 (hd b63) (O2 l m h n p a b) ⟨.nil, 0⟩ = .ok .norm (O3 l m h n p a b) ⟨.nil, 0⟩)
    (h4 : execX (call4 l m) 100000 (hd b64) (O3 l m h n p a b) ⟨.nil, 0⟩ = .ok .norm (O4 l m h n p a b) ⟨.nil, 0⟩)
    (h5 : execX (call4 l m) 100000 (hd b65) (O4 l m h n p a b) ⟨.nil, 0⟩ = .ok .norm (O5 l m h n p a b) ⟨.nil, 0⟩)
    (h6 : execX (call4 l m) 100000 (hd b66) (O5 l m h n p a b) ⟨.nil, 0⟩ = .ok .norm (O6 l m h n p a b (md 7 (p.tmod 7))) ⟨.nil, 0⟩) :
    execX (call4 l m) 100000 b62 (T6 h n p a b) ⟨.nil, 0⟩ = execX (call4 l m) 100000 b67 (O6 l m h n p a b (md 7 (p.tmod 7))) ⟨.nil, 0⟩ :=
  (cut1 e62 h2).trans ((cut1 e63 h3).trans ((cut1 e64 h4).trans ((cut1 e65 h5).trans (cut1 e66 h6))))
theorem f6_mid (l m : List (List AV × AV)) (h n p a b : Int) (ha : a = 0 ∨ a = 1 ∨ a = 2 ∨ a = 3) (hb : b = 0 ∨ b = 1 ∨ b = 2 ∨ b = 3) : execX (call4 l m) 100000 b62 (T6 h n p a b) ⟨.nil, 0⟩ = execX (call4 l m) 100000 b67 (O6 l m h n p a b (md 7 (p.tmod 7))) ⟨.nil, 0⟩ := by
  rcases ha with ha | ha | ha | ha <;> subst ha <;> rcases hb with hb | hb | hb | hb <;> subst hb
  · exact f6_mid_of l m h n p 0 0 (by kernel_rfl) (by kernel_rfl) (by kernel_rfl) (by kernel_rfl) (by kernel_rfl)
  · exact f6_mid_of l m h n p 0 1 (by kernel_rfl) (by kernel_rfl) (by kernel_rfl) (by kernel_rfl) (by kernel_rfl)
  · exact f6_mid_of l m h n p 0 2 (by kernel_rfl) (by kernel_rfl) (by kernel_rfl) (by kernel_rfl) (by kernel_rfl)
  · exact f6_mid_of l m h n p 0 3 (by kernel_rfl) (by kernel_rfl) (by kernel_rfl) (by kernel_rfl) (by kernel_rfl)
  · exact f6_mid_of l m h n p 1 0 (by kernel_rfl) (by kernel_rfl) (by kernel_rfl) (by kernel_rfl) (by kernel_rfl)
  · exact f6_mid_of l m h n p 1 1 (by kernel_rfl) (by kernel_rfl) (by kernel_rfl) (by kernel_rfl) (by kernel_rfl)
  · exact f6_mid_of l m h n p 1 2 (by kernel_rfl) (by kernel_rfl) (by kernel_rfl) (by kernel_rfl) (by kernel_rfl)
  · exact f6_mid_of l m h n p 1 3 (by kernel_rfl) (by kernel_rfl) (by kernel_rfl) (by kernel_rfl) (by kernel_rfl)
  · exact f6_mid_of l m h n p 2 0 (by kernel_rfl) (by kernel_rfl) (by kernel_rfl) (by kernel_rfl) (by kernel_rfl)
  · exact f6_mid_of l m h n p 2 1 (by kernel_rfl) (by kernel_rfl) (by kernel_rfl) (by kernel_rfl) (by kernel_rfl)
  · exact f6_mid_of l m h n p 2 2 (by kernel_rfl) (by kernel_rfl) (by kernel_rfl) (by kernel_rfl) (by kernel_rfl)
  · exact f6_mid_of l m h n p 2 3 (by kernel_rfl) (by kernel_rfl) (by kernel_rfl) (by kernel_rfl) (by kernel_rfl)
  · exact f6_mid_of l m h n p 3 0 (by kernel_rfl) (by kernel_rfl) (by kernel_rfl) (by kernel_rfl) (by kernel_rfl)
  · exact f6_mid_of l m h n p 3 1 (by kernel_rfl) (by kernel_rfl) (by kernel_rfl) (by kernel_rfl) (by kernel_rfl)
  · exact f6_mid_of l m h n p 3 2 (by kernel_rfl) (by kernel_rfl) (by kernel_rfl) (by kernel_rfl) (by kernel_rfl)
  · exact f6_mid_of l m h n p 3 3 (by kernel_rfl) (by kernel_rfl) (by kernel_rfl) (by kernel_rfl) (by kernel_rfl)
/-- What is left when all is reduced. -/
def Fin6 (l m : List (List AV × AV)) (a b k : Int) : Prop := ∀ h n p : Int, yes (endF x6.res (execX (call4 l m) 100000 b67 (O6 l m h n p a b k) ⟨.nil, 0⟩)) = true
/-- The run of all numbers, out of the runs of the reduced ones. -/
theorem f6_run {h n p : Int} (hh : 0 ≤ h) (hn : 0 ≤ n) {m : List (List AV × AV)} {G : List (List AV × AV) → Prop}
    (all : ∀ a b k : Int, (a = 0 ∨ a = 1 ∨ a = 2 ∨ a = 3) → (b = 0 ∨ b = 1 ∨ b = 2 ∨ b = 3) → (k = 0 ∨ k = 1 ∨ k = 2 ∨ k = 3 ∨ k = 4 ∨ k = 5 ∨ k = 6) → ∃ l, G l ∧ Fin6 l m a b k) :
    ∃ l, G l ∧ yes (callN (envG l m) 100000 201 6 [.int .u8 h, .int .u8 n, .int .i64 p] ⟨.nil, 0⟩) = true := by
  obtain ⟨l, hl, hF⟩ := all _ _ _ (tmod4 h hh) (tmod4 n hn) (md7 p)
  refine ⟨l, hl, ?_⟩
  show yes (endF x6.res (execX (call4 l m) 100000 x6.body (A6 h n p) ⟨.nil, 0⟩)) = true
  rw [f6_head, f6_mid l m h n p _ _ (tmod4 h hh) (tmod4 n hn)]
  exact hF h n p
end
end Go.Proofs.YthlkmffimhnehaaGreat
