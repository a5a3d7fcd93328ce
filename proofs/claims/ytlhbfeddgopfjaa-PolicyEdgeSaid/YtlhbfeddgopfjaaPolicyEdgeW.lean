/-
  The walk of the law PolicyEdge: for all uint16 arguments it returns true and leaves the world as it was. No condition.
-/
import Derived.Test.YtlhbfeddgopfjaaPol
namespace Go.Proofs.Ytlhbfeddgopfjaa
open Go.RowKit

set_option maxHeartbeats 2000000 in
theorem edge_any (l r f : Int) (l0 : 0 ≤ l) (l1 : l ≤ 65535) (r0 : 0 ≤ r) (r1 : r ≤ 65535) (f0 : 0 ≤ f) (f1 : f ≤ 65535) (w : World) :
    Calls Try.prog 7 #[.int .u16 l, .int .u16 r, .int .u16 f] w fun e w' => e = .returned (.bool true) ∧ w = w' := by
  obtain ⟨p, hp⟩ : ∃ p, p = r * f := ⟨_, rfl⟩
  have p0 : 0 ≤ p := hp ▸ Int.mul_nonneg r0 f0
  have p1 : p ≤ 4294836225 := by
    have h := Int.mul_le_mul r1 f1 f0 (by decide : (0 : Int) ≤ 65535)
    have e : (65535 : Int) * 65535 = 4294836225 := by decide
    omega
  have hl : hd l = l := hd_same l0 (by omega)
  have he : hd (l + p) = l + p := hd_same (by omega) (by omega)
  have he1 : hd (l + p + 1) = l + p + 1 := hd_same (by omega) (by omega)
  have hm : ml r f = p := by unfold ml; rw [hd_same r0 (by omega), hd_same f0 (by omega)]; omega
  have s1 : sn (l + p) l = p := by unfold sn; omega
  have s2 : sn (l + p + 1) l = p + 1 := by unfold sn; omega
  have k1 : kp (l + r * f) l r f = true := by rw [← hp]; unfold kp; rw [s1, hm]; simp
  have k2 : kp (l + r * f + 1) l r f = false := by rw [← hp]; unfold kp; rw [s2, hm]; simp; omega
  have b1 : (sn (l + r * f) l == ml r f) = true := by rw [← hp, s1, hm]; simp
  have g1 : 0 ≤ r * f := by omega
  have g2 : r * f ≤ 4294836225 := by omega
  clear hm s1 s2 he he1 hl hp p0 p1
  go_enter Try.func7, Try.ntmps7
  go_wp2_with (first | (go_at_call 20; refine (awake_any _).mono ?_; rintro e w' ⟨rfl, rfl⟩) | (go_at_call 21; refine (add_any _ _ _).mono ?_; rintro e w' ⟨rfl, rfl⟩) | (go_at_call 22; refine (radd_any _ _ _).mono ?_; rintro e w' ⟨rfl, rfl⟩) | (go_at_call 23; refine (mul_any _ _ _).mono ?_; rintro e w' ⟨rfl, rfl⟩) | (go_at_call 24; refine (rmul_any _ _ _).mono ?_; rintro e w' ⟨rfl, rfl⟩) | (go_at_call 25; refine (most_any _ _ _).mono ?_; rintro e w' ⟨rfl, rfl⟩) | (go_at_call 26; refine (since_any _ _ _).mono ?_; rintro e w' ⟨rfl, rfl⟩) | (go_at_call 27; refine (rsince_any _ _ _).mono ?_; rintro e w' ⟨rfl, rfl⟩) | (go_at_call 28; refine (keeps_any _ _ _ _ _).mono ?_; rintro e w' ⟨rfl, rfl⟩) | (go_at_call 29; refine (rkeeps_any _ _ _ _ _).mono ?_; rintro e w' ⟨rfl, rfl⟩) | (go_at_call 30; refine (rheld_any _ _).mono ?_; rintro e w' ⟨rfl, rfl⟩))
  go_ret
  exact ⟨rfl, rfl⟩

theorem u16_range {a : Int} (h : (Lit.int .u16 a).wf = true) : 0 ≤ a ∧ a ≤ 65535 := by
  simp [Lit.wf, IntKind.min, IntKind.max, IntKind.signed, IntKind.bits] at h
  omega

theorem policyEdge_walk (w : World) (a0 : Int) (_w0 : (Lit.int .u16 a0).wf = true) (a1 : Int) (_w1 : (Lit.int .u16 a1).wf = true) (a2 : Int) (_w2 : (Lit.int .u16 a2).wf = true) :
    Calls Try.prog 7 #[.int .u16 a0, .int .u16 a1, .int .u16 a2] w fun e w' => e = .returned (.bool true) ∧ Below w.heap.size w w' :=
  (edge_any a0 a1 a2 (u16_range _w0).1 (u16_range _w0).2 (u16_range _w1).1 (u16_range _w1).2 (u16_range _w2).1 (u16_range _w2).2 w).mono fun _ _ h => ⟨h.1, h.2 ▸ Below.refl _ _⟩
end Go.Proofs.Ytlhbfeddgopfjaa
