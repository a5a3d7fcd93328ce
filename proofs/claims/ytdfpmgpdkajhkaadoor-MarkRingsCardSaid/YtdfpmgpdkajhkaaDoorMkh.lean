/-
  The law's other functions of edges: MarkChain's, MarkOdd's, MarkRings'. Premises in each theorem.
-/
import Derived.Test.YtdfpmgpdkajhkaaDoorMkd
namespace Go.Proofs.YtdfpmgpdkajhkaaDoor
open Go.RowKit
/-- A captured variable that holds v, below B. -/
def Cap (eb B : Nat) (v : Value) (_ : Nat) (w : World) : Prop := w.cell? ⟨eb, 0, none⟩ = some v ∧ eb < B
theorem Cap.below {eb B Q : Nat} {v : Value} {w w' : World} (h : Cap eb B v Q w) (hb : Below B w w') : Cap eb B v Q w' := ⟨(hb.cell (p := ⟨eb, 0, none⟩) h.2).trans h.1, h.2⟩
/-- A slice that was just made. -/
theorem rdE_new {w : World} {base : Nat} {cs : Array Value} {xs : List Int} (h : ∀ i, i < xs.length → cs[i]? = some (.int .i64 (xs.getD i 0))) : RdE w (w.alloc (.cells cs 3)) base (some ⟨w.heap.size, 0, none⟩) xs.length xs :=
  ⟨rfl, fun _ => ⟨_, _, rfl, .inr (Nat.le_refl _), by simp, fun i hi => by rw [Nat.zero_add]; exact (Blk.new w cs 3).cell (h i hi)⟩⟩
/-- MarkChain's edges. -/
def chE (down : Bool) (k : Nat) : List Int := if down = true then [(k : Int) - 1] else [(k : Int) + 1]
set_option maxHeartbeats 1000000 in
theorem chain1_any {w : World} {eb B Q : Nat} {down : Bool} (h : Cap eb B (.bool down) Q w) (k : Nat) (hk : k ≤ 1000000) :
    Calls Tryd.prog 53 #[.int .i64 (k : Nat), .pointer (some ⟨eb, 0, none⟩)] w fun e w' => e = .returned (.slice (some ⟨w.heap.size, 0, none⟩) 1 1) ∧ w' = w.alloc (.cells #[.int .i64 ((chE down k).getD 0 0)] 3) := by
  obtain ⟨h1, _⟩ := h
  cases down
  · rw [show (chE false k).getD 0 0 = (k : Int) + 1 from rfl]
    go_enter Tryd.func53, Tryd.ntmps53
    go_wp2
    go_ret
    exact ⟨rfl, rfl⟩
  · rw [show (chE true k).getD 0 0 = (k : Int) - 1 from rfl]
    go_enter Tryd.func53, Tryd.ntmps53
    go_wp2
    go_ret
    exact ⟨rfl, rfl⟩
theorem chE_len (down : Bool) (k : Nat) : (chE down k).length = 1 := by unfold chE; cases down <;> rfl
theorem chain_edges {eb B N : Nat} {down : Bool} (hN : N ≤ 4096) : Edges 53 #[.pointer (some ⟨eb, 0, none⟩)] (chE down) N B none (Cap eb B (.bool down)) where
  en := fun args w => enters_of Tryd.func53 (by kernel_rfl) rfl args w
  call := fun w Q k hk hB h => (chain1_any h k (by omega)).mono fun e w' ⟨he, hw⟩ => by
    subst hw
    have hr := rdE_new (w := w) (base := B) (cs := #[.int .i64 ((chE down k).getD 0 0)]) (xs := chE down k) (fun i hi => by
      rw [chE_len] at hi
      obtain rfl : i = 0 := by omega
      rfl)
    rw [chE_len] at hr
    exact ⟨_, _, _, he, hr, World.grownBy_alloc w _ _, h.below ((Below.refl B w).alloc hB _)⟩
  keep := fun Q w w' h hb => h.below hb
  row := fun r e => by cases e
  len := fun k => by rw [chE_len]; omega
set_option maxHeartbeats 1000000 in
theorem odd1_any (w : World) (k : Nat) : Calls Tryd.prog 54 #[.int .i64 (k : Nat)] w fun e w' => e = .returned (.slice (some ⟨w.heap.size, 0, none⟩) 1 1) ∧ w' = w.alloc (.cells #[.int .i64 0] 3) := by
  go_enter Tryd.func54, Tryd.ntmps54
  go_wp2
  go_ret
  exact ⟨rfl, rfl⟩
theorem odd1_edges {B N : Nat} : Edges 54 #[] (fun _ => [0]) N B none (fun _ _ => True) where
  en := fun args w => enters_of Tryd.func54 (by kernel_rfl) rfl args w
  call := fun w Q k hk hB h => (odd1_any w k).mono fun e w' ⟨he, hw⟩ => by
    subst hw
    exact ⟨_, _, _, he, rdE_new (xs := [0]) (fun i hi => by
      simp at hi
      subst hi
      rfl), World.grownBy_alloc w _ _, trivial⟩
  keep := fun Q w w' h hb => trivial
  row := fun r e => by cases e
  len := fun k => by simp
/-- A captured slice, below B. -/
def CapS (eb B : Nat) (A : Option Addr) (d c : Nat) (xs : List Int) (_ : Nat) (w : World) : Prop := w.cell? ⟨eb, 0, none⟩ = some (.slice A d c) ∧ eb < B ∧ RdB w B A d xs
theorem CapS.below {eb B Q d c : Nat} {A : Option Addr} {xs : List Int} {w w' : World} (h : CapS eb B A d c xs Q w) (hb : Below B w w') : CapS eb B A d c xs Q w' :=
  ⟨(hb.cell (p := ⟨eb, 0, none⟩) h.2.1).trans h.1, h.2.1, h.2.2.below hb (Nat.le_refl _)⟩
set_option maxHeartbeats 1000000 in
theorem odd2_any {w : World} {eb B Q d c : Nat} {A : Option Addr} {xs : List Int} (h : CapS eb B A d c xs Q w) (k : Nat) : Calls Tryd.prog 55 #[.int .i64 (k : Nat), .pointer (some ⟨eb, 0, none⟩)] w fun e w' => e = .returned (.slice A d c) ∧ w = w' := by
  obtain ⟨h1, _, _⟩ := h
  go_enter Tryd.func55, Tryd.ntmps55
  go_wp2
  go_ret
  exact ⟨rfl, rfl⟩
set_option maxHeartbeats 1000000 in
theorem odd3_any {w : World} {eb B Q d c : Nat} {A : Option Addr} {xs : List Int} (h : CapS eb B A d c xs Q w) (k : Nat) : Calls Tryd.prog 56 #[.int .i64 (k : Nat), .pointer (some ⟨eb, 0, none⟩)] w fun e w' => e = .returned (.slice A d c) ∧ w = w' := by
  obtain ⟨h1, _, _⟩ := h
  go_enter Tryd.func56, Tryd.ntmps56
  go_wp2
  go_ret
  exact ⟨rfl, rfl⟩
theorem capS_rdE {w : World} {eb B Q d c : Nat} {A : Option Addr} {xs : List Int} (h : CapS eb B A d c xs Q w) (hB : B ≤ w.heap.size) : RdE w w B A d xs :=
  ⟨h.2.2.1, fun hp => by
    obtain ⟨g, off, e1, hg, hc⟩ := h.2.2.2 hp
    exact ⟨g, off, e1, .inl hg, by omega, hc⟩⟩
theorem odd2_edges {eb B N d c : Nat} {A : Option Addr} {xs : List Int} (hl : xs.length ≤ 100000) : Edges 55 #[.pointer (some ⟨eb, 0, none⟩)] (fun _ => xs) N B none (CapS eb B A d c xs) where
  en := fun args w => enters_of Tryd.func55 (by kernel_rfl) rfl args w
  call := fun w Q k hk hB h => (odd2_any h k).mono fun e w' ⟨he, hw⟩ => by
    subst hw
    exact ⟨_, _, _, he, capS_rdE h hB, only_refl _ _, h⟩
  keep := fun Q w w' h hb => h.below hb
  row := fun r e => by cases e
  len := fun k => hl
theorem odd3_edges {eb B N d c : Nat} {A : Option Addr} {xs : List Int} (hl : xs.length ≤ 100000) : Edges 56 #[.pointer (some ⟨eb, 0, none⟩)] (fun _ => xs) N B none (CapS eb B A d c xs) where
  en := fun args w => enters_of Tryd.func56 (by kernel_rfl) rfl args w
  call := fun w Q k hk hB h => (odd3_any h k).mono fun e w' ⟨he, hw⟩ => by
    subst hw
    exact ⟨_, _, _, he, capS_rdE h hB, only_refl _ _, h⟩
  keep := fun Q w w' h hb => h.below hb
  row := fun r e => by cases e
  len := fun k => hl
end Go.Proofs.YtdfpmgpdkajhkaaDoor
