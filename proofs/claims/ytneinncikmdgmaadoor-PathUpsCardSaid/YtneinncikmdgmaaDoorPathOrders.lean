/- The law PathOrders, walked. No condition. -/
import Derived.Test.YtneinncikmdgmaaDoorMade
set_option linter.unusedVariables false
namespace Go.Proofs.YtneinncikmdgmaaDoor
open Go.RowKit

theorem madeP_ne (ns : List Int) : madeP ns ≠ [] := by
  unfold madeP
  split
  · simp
  · assumption
theorem below_spec {s up : List UInt8} : belowF s up = true ↔ s ≠ up ∧ ((up = [47] ∧ s ≠ []) ∨ (up ++ [47]) <+: s) := by
  simp [belowF]
theorem below_trans {x y z : List UInt8} (hz : z ≠ []) (h1 : belowF x y = true) (h2 : belowF y z = true) : belowF x z = true := by
  rw [below_spec] at *
  obtain ⟨n1, h1⟩ := h1
  obtain ⟨n2, h2⟩ := h2
  have lz : 0 < z.length := List.length_pos_iff.2 hz
  rcases h1 with ⟨rfl, hx⟩ | h1
  · rcases h2 with ⟨rfl, _⟩ | h2
    · exact absurd rfl n2
    · have := h2.length_le
      simp at this
      exact absurd this hz
  · have l1 := h1.length_le
    simp at l1
    rcases h2 with ⟨rfl, hy⟩ | h2
    · have ly : 0 < y.length := List.length_pos_iff.2 hy
      refine ⟨?_, .inl ⟨rfl, ?_⟩⟩
      · rintro rfl; simp at l1; exact hy l1
      · rintro rfl; simp at l1
    · have l2 := h2.length_le
      simp at l2
      refine ⟨?_, .inr (h2.trans ((List.prefix_append y [47]).trans h1))⟩
      rintro rfl
      omega
theorem below_asym {x y : List UInt8} (hx : x ≠ []) (hy : y ≠ []) (h1 : belowF x y = true) : belowF y x = false := by
  rw [Bool.eq_false_iff]
  intro h2
  rw [below_spec] at *
  obtain ⟨n1, h1⟩ := h1
  obtain ⟨n2, h2⟩ := h2
  have lx : 0 < x.length := List.length_pos_iff.2 hx
  have ly : 0 < y.length := List.length_pos_iff.2 hy
  rcases h1 with ⟨rfl, _⟩ | h1
  · rcases h2 with ⟨rfl, _⟩ | h2
    · exact absurd rfl n2
    · have := h2.length_le
      simp at this
      exact absurd this hx
  · have l1 := h1.length_le
    simp at l1
    rcases h2 with ⟨rfl, _⟩ | h2
    · simp at l1; exact absurd l1 hy
    · have l2 := h2.length_le
      simp at l2
      omega
theorem below_root {x : List UInt8} (hx : x ≠ []) : belowF x [47] = decide (x ≠ [47]) := by
  unfold belowF
  by_cases h : x = [47]
  · simp [h]
  · simp [h, hx]
theorem below_eq (w : World) (s up : List UInt8) (hs : s.length ≤ 140737488355328) (hu : up.length ≤ 140737488355328) {b : Bool} (h : belowF s up = b) :
    Calls Tryd.prog 25 #[.string (S s), .string (S up)] w fun e w' => e = .returned (.bool b) ∧ w = w' := h ▸ below_path w s up hs hu

set_option maxRecDepth 100000 in
set_option maxHeartbeats 4000000 in
theorem orders_walk (W : World) (A B C : Option Addr) (a b c : List Int) (ca cb cc : Nat) (ha : Src W 1 A a.length (Is a)) (hb : Src W 1 B b.length (Is b)) (hc : Src W 1 C c.length (Is c))
    (la : a.length ≤ 9223372036854775807) (lb : b.length ≤ 9223372036854775807) (lc : c.length ≤ 9223372036854775807) :
    Calls Tryd.prog 3 #[.slice A a.length ca, .slice B b.length cb, .slice C c.length cc] W fun e w' => e = .returned (.bool true) ∧ Keeps (fun k => W.heap.size ≤ k) W w' := by
  have HF : Hid (∀ {w w' : World}, Keeps (fun _ => False) w w' → Keeps (fun k => w.heap.size ≤ k) w w') := fun h => h.mono (fun _ _ h => h.elim)
  go_enter Tryd.func3, Tryd.ntmps3
  go_wp2_with fail
  refine (head_path W).mono ?_
  rintro e w0 ⟨rfl, hk0⟩
  have HK := hide hk0
  clear hk0
  by_cases hl : a.length ≤ 8 ∧ b.length ≤ 8 ∧ c.length ≤ 8
  · obtain ⟨l1, l2, l3⟩ := hl
    go_wp2_with fail
    refine (made_path _ A a ca (ha.keep HK.out (fun _ _ h => h)) (by omega)).mono ?_
    rintro e w1 ⟨rfl, hk⟩
    replace HK := hide (HK.out.trans' hk)
    clear hk
    go_wp2_with fail
    refine (made_path _ B b cb (hb.keep HK.out (fun _ _ h => h)) (by omega)).mono ?_
    rintro e w2 ⟨rfl, hk⟩
    replace HK := hide (HK.out.trans' hk)
    clear hk
    go_wp2_with fail
    refine (made_path _ C c cc (hc.keep HK.out (fun _ _ h => h)) (by omega)).mono ?_
    rintro e w3 ⟨rfl, hk⟩
    replace HK := hide (HK.out.trans' hk)
    clear hk
    have nx := madeP_ne a
    have ny := madeP_ne b
    have nz := madeP_ne c
    have mx := madeP_le a
    have my := madeP_le b
    have mz := madeP_le c
    generalize madeP a = x at *
    generalize madeP b = y at *
    generalize madeP c = z at *
    have lx : x.length ≤ 40 := by omega
    have ly : y.length ≤ 40 := by omega
    have lz : z.length ≤ 40 := by omega
    have HR := hide (below_root nx)
    have HT := hide (@below_trans x y z nz)
    have HY := hide (@below_asym x y nx ny)
    clear nx ny nz mx my mz
    by_cases hx : x = [47]
    · have E : Hid (belowF x [47] = false) := by show _ = _; rw [HR.out]; simp [hx]
      have hxb : (x == [47]) = true := by simpa using hx
      clear hx HR
      cases hxy : belowF x y
      · have H1 := hide hxy
        clear hxy
        go_wp2_with fail
        refine (below_eq _ x y (by omega) (by omega) H1.out).mono ?_
        rintro e w4 ⟨rfl, rfl⟩
        go_wp2_with fail
        refine (below_eq _ x y (by omega) (by omega) H1.out).mono ?_
        rintro e w4 ⟨rfl, rfl⟩
        go_wp2_with fail
        refine (below_eq _ x [47] (by omega) (by simp) E.out).mono ?_
        rintro e w4 ⟨rfl, rfl⟩
        go_wp2_with fail
        go_ret
        exact ⟨rfl, HF.out HK.out⟩
      · have H1 := hide hxy
        have H2 := hide (HY.out hxy)
        clear hxy
        cases hyz : belowF y z
        · have H3 := hide hyz
          clear hyz
          go_wp2_with fail
          refine (below_eq _ x y (by omega) (by omega) H1.out).mono ?_
          rintro e w4 ⟨rfl, rfl⟩
          go_wp2_with fail
          refine (below_eq _ y z (by omega) (by omega) H3.out).mono ?_
          rintro e w4 ⟨rfl, rfl⟩
          go_wp2_with fail
          refine (below_eq _ x y (by omega) (by omega) H1.out).mono ?_
          rintro e w4 ⟨rfl, rfl⟩
          go_wp2_with fail
          refine (below_eq _ y x (by omega) (by omega) H2.out).mono ?_
          rintro e w4 ⟨rfl, rfl⟩
          go_wp2_with fail
          refine (below_eq _ x [47] (by omega) (by simp) E.out).mono ?_
          rintro e w4 ⟨rfl, rfl⟩
          go_wp2_with fail
          go_ret
          exact ⟨rfl, HF.out HK.out⟩
        · have H3 := hide hyz
          have H4 := hide (HT.out H1.out hyz)
          clear hyz
          go_wp2_with fail
          refine (below_eq _ x y (by omega) (by omega) H1.out).mono ?_
          rintro e w4 ⟨rfl, rfl⟩
          go_wp2_with fail
          refine (below_eq _ y z (by omega) (by omega) H3.out).mono ?_
          rintro e w4 ⟨rfl, rfl⟩
          go_wp2_with fail
          refine (below_eq _ x z (by omega) (by omega) H4.out).mono ?_
          rintro e w4 ⟨rfl, rfl⟩
          go_wp2_with fail
          refine (below_eq _ x y (by omega) (by omega) H1.out).mono ?_
          rintro e w4 ⟨rfl, rfl⟩
          go_wp2_with fail
          refine (below_eq _ y x (by omega) (by omega) H2.out).mono ?_
          rintro e w4 ⟨rfl, rfl⟩
          go_wp2_with fail
          refine (below_eq _ x [47] (by omega) (by simp) E.out).mono ?_
          rintro e w4 ⟨rfl, rfl⟩
          go_wp2_with fail
          go_ret
          exact ⟨rfl, HF.out HK.out⟩
    · have E : Hid (belowF x [47] = true) := by show _ = _; rw [HR.out]; simp [hx]
      have hxb : (x == [47]) = false := by simpa using hx
      clear hx HR
      cases hxy : belowF x y
      · have H1 := hide hxy
        clear hxy
        go_wp2_with fail
        refine (below_eq _ x y (by omega) (by omega) H1.out).mono ?_
        rintro e w4 ⟨rfl, rfl⟩
        go_wp2_with fail
        refine (below_eq _ x y (by omega) (by omega) H1.out).mono ?_
        rintro e w4 ⟨rfl, rfl⟩
        go_wp2_with fail
        refine (below_eq _ x [47] (by omega) (by simp) E.out).mono ?_
        rintro e w4 ⟨rfl, rfl⟩
        go_wp2_with fail
        go_ret
        exact ⟨rfl, HF.out HK.out⟩
      · have H1 := hide hxy
        have H2 := hide (HY.out hxy)
        clear hxy
        cases hyz : belowF y z
        · have H3 := hide hyz
          clear hyz
          go_wp2_with fail
          refine (below_eq _ x y (by omega) (by omega) H1.out).mono ?_
          rintro e w4 ⟨rfl, rfl⟩
          go_wp2_with fail
          refine (below_eq _ y z (by omega) (by omega) H3.out).mono ?_
          rintro e w4 ⟨rfl, rfl⟩
          go_wp2_with fail
          refine (below_eq _ x y (by omega) (by omega) H1.out).mono ?_
          rintro e w4 ⟨rfl, rfl⟩
          go_wp2_with fail
          refine (below_eq _ y x (by omega) (by omega) H2.out).mono ?_
          rintro e w4 ⟨rfl, rfl⟩
          go_wp2_with fail
          refine (below_eq _ x [47] (by omega) (by simp) E.out).mono ?_
          rintro e w4 ⟨rfl, rfl⟩
          go_wp2_with fail
          go_ret
          exact ⟨rfl, HF.out HK.out⟩
        · have H3 := hide hyz
          have H4 := hide (HT.out H1.out hyz)
          clear hyz
          go_wp2_with fail
          refine (below_eq _ x y (by omega) (by omega) H1.out).mono ?_
          rintro e w4 ⟨rfl, rfl⟩
          go_wp2_with fail
          refine (below_eq _ y z (by omega) (by omega) H3.out).mono ?_
          rintro e w4 ⟨rfl, rfl⟩
          go_wp2_with fail
          refine (below_eq _ x z (by omega) (by omega) H4.out).mono ?_
          rintro e w4 ⟨rfl, rfl⟩
          go_wp2_with fail
          refine (below_eq _ x y (by omega) (by omega) H1.out).mono ?_
          rintro e w4 ⟨rfl, rfl⟩
          go_wp2_with fail
          refine (below_eq _ y x (by omega) (by omega) H2.out).mono ?_
          rintro e w4 ⟨rfl, rfl⟩
          go_wp2_with fail
          refine (below_eq _ x [47] (by omega) (by simp) E.out).mono ?_
          rintro e w4 ⟨rfl, rfl⟩
          go_wp2_with fail
          go_ret
          exact ⟨rfl, HF.out HK.out⟩
  · go_wp2_with fail
    all_goals first
      | (go_ret
         exact ⟨rfl, HF.out HK.out⟩)
      | (exfalso; omega)

end Go.Proofs.YtneinncikmdgmaaDoor
