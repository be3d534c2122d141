import Derived.Test.YtplpmndchdockaaDoorVMore
namespace Go.Proofs.YtplpmndchdockaaDoor.M
open Go.Proofs.YtplpmndchdockaaDoorV.PrintWords
set_option autoImplicit false
/-- A function that asks another one: with enough rounds both answer. -/
theorem use {α β : Type} {g : Nat → Option α} {F F' : Nat → Option β} {a : α} {r : β} (h : Ev g a) (h' : Ev F' r) (e : ∀ k, g k = some a → F k = F' k) : Ev F r := by
  obtain ⟨K, h⟩ := h
  obtain ⟨K', h'⟩ := h'
  exact ⟨max K K', fun k hk => by rw [e k (h k (by omega)), h' k (by omega)]⟩
/-- A function whose first round is another one. -/
theorem use1 {α β : Type} {g : Nat → Option α} {F F' : Nat → Option β} {a : α} {r : β} (h : Ev g a) (h' : Ev F' r) (e : ∀ k, g k = some a → F (k + 1) = F' k) : Ev F r := by
  obtain ⟨K, h⟩ := h
  obtain ⟨K', h'⟩ := h'
  refine ⟨max K K' + 1, fun k hk => ?_⟩
  obtain ⟨m, rfl⟩ : ∃ m, k = m + 1 := ⟨k - 1, by omega⟩
  rw [e m (h m (by omega)), h' m (by omega)]
theorem Ev.same {α : Type} {g : Nat → Option α} {r : α} (h : ∀ k, g k = some r) : Ev g r := ⟨0, fun k _ => h k⟩
theorem Ev.ans {α : Type} {g : Nat → Option α} {r : α} (h : ∀ k, g (k + 1) = some r) : Ev g r := ⟨1, fun k hk => by
  obtain ⟨m, rfl⟩ : ∃ m, k = m + 1 := ⟨k - 1, by omega⟩
  exact h m⟩
theorem Ev.two {α β : Type} {g : Nat → Option α} {f : Nat → Option β} {a : α} {b : β} (h : Ev g a) (k : Ev f b) : ∃ n, g n = some a ∧ f n = some b := by
  obtain ⟨K, h⟩ := h
  obtain ⟨K', k⟩ := k
  exact ⟨max K K', h _ (by omega), k _ (by omega)⟩
end Go.Proofs.YtplpmndchdockaaDoor.M
