/- The statement ClusterDelivers: the words, and the run up to the ticks. No condition. -/
import Derived.Test.YtegafdkhbgojcaaGreatDoorCN0
import Derived.Test.YtegafdkhbgojcaaGreatDoorEU
set_option linter.unusedVariables false
set_option maxRecDepth 100000
namespace Go.Proofs.YtegafdkhbgojcaaGreatDoor.Ek
open Go.Proofs.YtegafdkhbgojcaaGreatDoor.Ex
/-- three numbers of which low bits are known, and what they come to -/
def XD (k1 k2 k3 : Nat) (z1 z2 z3 t m d : Int) (n : Nat) : Value := if n = 9 then .int .i64 d else if n = 8 then .int .i64 m else if n = 7 then .int .i64 t else if n = k1 then .int .i64 z1 else if n = k2 then .int .i64 z2 else if n = k3 then .int .i64 z3 else X0 n
section
variable {r s u : Nat} {z1 z2 z3 t m d : Int}
theorem XD_1 : XD (cod r 6 0) (cod s 3 1) (cod u 2 2) z1 z2 z3 t m d (cod r 6 0) = .int .i64 z1 := by
  unfold XD
  rw [if_neg (by unfold cod; omega), if_neg (by unfold cod; omega), if_neg (by unfold cod; omega), if_pos rfl]
theorem XD_2 : XD (cod r 6 0) (cod s 3 1) (cod u 2 2) z1 z2 z3 t m d (cod s 3 1) = .int .i64 z2 := by
  unfold XD
  rw [if_neg (by unfold cod; omega), if_neg (by unfold cod; omega), if_neg (by unfold cod; omega), if_neg (by unfold cod; omega), if_pos rfl]
theorem XD_3 : XD (cod r 6 0) (cod s 3 1) (cod u 2 2) z1 z2 z3 t m d (cod u 2 2) = .int .i64 z3 := by
  unfold XD
  rw [if_neg (by unfold cod; omega), if_neg (by unfold cod; omega), if_neg (by unfold cod; omega), if_neg (by unfold cod; omega), if_neg (by unfold cod; omega), if_pos rfl]
theorem XD_ok (hr : r < 2 ^ 6) (hs : s < 2 ^ 3) (hu : u < 2 ^ 2) (h1 : z1 % (2 ^ 6 : Nat) = (r : Int)) (h2 : z2 % (2 ^ 3 : Nat) = (s : Int)) (h3 : z3 % (2 ^ 2 : Nat) = (u : Int)) : XOk (XD (cod r 6 0) (cod s 3 1) (cod u 2 2) z1 z2 z3 t m d) := by
  refine ⟨fun n => ?_, fun n hn => ?_⟩
  · unfold XD
    repeat' split
    all_goals first | rfl | exact X0_ok.one n
  · by_cases e1 : n = cod r 6 0
    · subst e1
      exact ⟨z1, XD_1, by rw [resM_cod (by omega) (by omega), resR_cod (by omega) (by omega) hr]; exact h1⟩
    · by_cases e2 : n = cod s 3 1
      · subst e2
        exact ⟨z2, XD_2, by rw [resM_cod (by omega) (by omega), resR_cod (by omega) (by omega) hs]; exact h2⟩
      · by_cases e3 : n = cod u 2 2
        · subst e3
          exact ⟨z3, XD_3, by rw [resM_cod (by omega) (by omega), resR_cod (by omega) (by omega) hu]; exact h3⟩
        · have e : XD (cod r 6 0) (cod s 3 1) (cod u 2 2) z1 z2 z3 t m d n = X0 n := by
            unfold XD
            rw [if_neg (by omega), if_neg (by omega), if_neg (by omega), if_neg e1, if_neg e2, if_neg e3]
          rw [e]
          exact X0_ok.res n hn
theorem XD_args {ρ : Rho} : VRs (XD (cod r 6 0) (cod s 3 1) (cod u 2 2) z1 z2 z3 t m d) ρ [.x (cod r 6 0), .x (cod s 3 1), .x (cod u 2 2)] #[Value.int .i64 z1, .int .i64 z2, .int .i64 z3].toList :=
  VRs_cons.2 ⟨_, _, rfl, XD_1.symm, VRs_cons.2 ⟨_, _, rfl, XD_2.symm, VRs_cons.2 ⟨_, _, rfl, XD_3.symm, VRs_nil.2 rfl⟩⟩⟩
theorem XD_7 {k1 k2 k3 : Nat} : XD k1 k2 k3 z1 z2 z3 t m d 7 = .int .i64 t := by unfold XD; rw [if_neg (by omega), if_neg (by omega), if_pos rfl]
theorem XD_8 {k1 k2 k3 : Nat} : XD k1 k2 k3 z1 z2 z3 t m d 8 = .int .i64 m := by unfold XD; rw [if_neg (by omega), if_pos rfl]
theorem XD_9 {k1 k2 k3 : Nat} : XD k1 k2 k3 z1 z2 z3 t m d 9 = .int .i64 d := by unfold XD; rw [if_pos rfl]
end
/-- the one or the other -/
noncomputable def orD (p q : AV → AV → Bool) (x y : AV) : Bool := Bool.rec (q x y) true (p x y)
theorem tells_orD {X : Nat → Value} {p q : AV → AV → Bool} (hp : Tells X p) (hq : Tells X q) : Tells X (orD p q) := by
  intro x y h ρ u hu
  unfold orD at h
  cases e : p x y
  · rw [e] at h; exact hq x y h ρ u hu
  · exact hp x y e ρ u hu
noncomputable def cdQ (S' S : LSt) (k : Nat) : Bool := goL Tryz.prog (nthN masks) (run Tryz.prog natC (nthN masks) (mS Tryz.prog (nthN masks) S') (fun _ _ _ => false) k) S
noncomputable def cdW (q : AV → AV → Bool) (S' S : LSt) (k : Nat) : Bool := goL Tryz.prog (nthN masks) (run Tryz.prog natC (nthN masks) (mSq q Tryz.prog (nthN masks) S') (fun _ _ _ => false) k) S
noncomputable def cdT (S : LSt) : Bool := goL Tryz.prog (nthN masks) (run Tryz.prog natC (nthN masks) (fun _ => false) (finL (.b true) []) 600) S
noncomputable def cdK (q : AV → AV → Bool) (g g' : LE) (h h' : List (Nat × AB)) (nx nx' : Nat) : Bool := andB (Nat.ble nx' nx) (andB (exGq q (gOf Tryz.prog (nthN masks) 10 g) (gOf Tryz.prog (nthN masks) 10 g')) (exTq q (hOf h .e) (hOf h' .e)))
noncomputable def cdV (g : AV → LE) (s : Nat) : Bool := exGq (exX 7 (.ofNat s)) (gOf Tryz.prog (nthN masks) 10 (g (.i .i64 (.ofNat s)))) (gOf Tryz.prog (nthN masks) 10 (g (.x 7)))
def cI (n : Nat) : AV := .i .i64 (.ofNat n)
/-- all goes well from a state on -/
def GD (X : Nat → Value) (S : LSt) : Prop := ∀ (W : World) (C0 : List Frame) m, RelL X Tryz.prog (nthN masks) 10 C0 (fun B => W.heap[B]?) W S m → Go.Proofs.YtegafdkhbgojcaaGreatDoor.Ex.Good Tryz.prog 10 C0 (fun v w' => v = .bool true ∧ Keeps (fun _ => False) W w') m
theorem cdFin {X : Nat → Value} {W : World} : FinOk X W (fun B => W.heap[B]?) (finL (.b true) []) fun v w' => v = .bool true ∧ Keeps (fun _ => False) W w' := fun y h nx ρ v w' hf hH hv => by
  obtain ⟨ρ', h1, h2⟩ := finL_ok y h nx ρ v w' hf hH hv
  exact ⟨h2, keeps_of_HR h1⟩
section
variable {X : Nat → Value} (hX : XOk X) {q : AV → AV → Bool} {S S' : LSt} {k : Nat}
include hX
theorem gd_run (hq : cdQ S' S k = true) (h : GD X S') : GD X S := fun W C0 => chunk_ok hX fields mixed (natC_ok fun _ _ h => h) names (h W C0) hq
theorem gd_tell (hq : Tells X q) (hr : cdW q S' S k = true) (h : GD X S') : GD X S := fun W C0 => chunkq_ok hX fields mixed (natC_ok fun _ _ h => h) names hq (h W C0) hr
theorem gd_last (ht : cdT S = true) : GD X S := fun W C0 => last_ok hX fields mixed (natC_ok fun _ _ h => h) names cdFin ht
end
theorem gd_hold {X : Nat → Value} {q : AV → AV → Bool} (hq : Tells X q) {its : List LIt} {g g' : LE} {h h' : List (Nat × AB)} {nx nx' : Nat} (hk : cdK q g g' h h' nx nx' = true) (H : GD X (.mk 10 its g h nx [])) : GD X (.mk 10 its g' h' nx' []) := fun W C0 m hr => by
  obtain ⟨h1, h2⟩ := andB_t.1 (show andB _ _ = true from hk)
  obtain ⟨h2, h3⟩ := andB_t.1 h2
  exact H W C0 m (relL_pad (Nat.le_of_ble_eq_true h1) (relL_hold hq h2 h3 hr))
/-- a tick's head: where the ticks are done, and where they go on -/
noncomputable def cdH (i : Nat) (its : List LIt) (g : AV → LE) (hp : List (Nat × AB)) (nx : Nat) (SX SB : LSt) : Bool := andB (allB (fun d => cdV g (Nat.add i d)) (Nat.sub 64 i)) (andB (cdQ SX (.mk 10 its (g (cI i)) hp nx []) 3) (allB (fun d => cdW (exX 7 (.ofNat (Nat.add i (Nat.succ d)))) SB (.mk 10 its (g (cI (Nat.add i (Nat.succ d)))) hp nx []) 3) (Nat.sub 63 i)))
theorem gd_head {X : Nat → Value} (hX : XOk X) {s : Nat} (h7 : X 7 = .int .i64 (Int.ofNat s)) (hs : s < 64) {i : Nat} (hi : i ≤ s) {its : List LIt} {g : AV → LE} {hp : List (Nat × AB)} {nx : Nat} {SX SB : LSt} (hq : cdH i its g hp nx SX SB = true) (hx : i = s → GD X SX) (hb : i < s → GD X SB) : GD X (.mk 10 its (g (.x 7)) hp nx []) := fun W C0 m hr => by
  obtain ⟨hw, hq⟩ := andB_t.1 (show andB _ _ = true from hq)
  obtain ⟨ht, hh⟩ := andB_t.1 hq
  obtain ⟨d, rfl⟩ : ∃ d, s = i + d := ⟨s - i, by omega⟩
  have hr := relL_tells (g := g (cI (Nat.add i d))) (tells_exX h7) (allB_ok hw d (show d < 64 - i by omega)) hr
  match d with
  | 0 => exact gd_run hX ht (hx rfl) W C0 m hr
  | d + 1 => exact gd_tell hX (tells_exX h7) (allB_ok hh d (show d < 63 - i by omega)) (hb (by omega)) W C0 m hr
/-- the letters are heard one by one: so many were -/
noncomputable def cdE (j : Nat) (V : AV → LSt) : Bool := allB (fun e => andB (cdW (exX 8 (.ofNat (Nat.add j e))) (V (cI (Nat.add j e))) (V (.x 8)) 0) (cdT (V (cI (Nat.add j e))))) (Nat.sub 8 j)
noncomputable def cdL (j : Nat) (V : AV → LSt) (VB : LSt) : Bool := andB (allB (fun e => cdW (exX 8 (.ofNat (Nat.add j e))) (V (cI (Nat.add j e))) (V (.x 8)) 0) (Nat.sub 8 j)) (andB (cdT (V (cI j))) (allB (fun e => cdW (exX 8 (.ofNat (Nat.add j (Nat.succ e)))) VB (V (cI (Nat.add j (Nat.succ e)))) 3) (Nat.sub 7 j)))
section
variable {X : Nat → Value} (hX : XOk X) {m : Nat} (h8 : X 8 = .int .i64 (Int.ofNat m)) (hm : m < 8) {j : Nat} (hj : j ≤ m) {V : AV → LSt}
include hX h8 hm hj
theorem gd_vlast (h : cdE j V = true) : GD X (V (.x 8)) := by
  obtain ⟨e, rfl⟩ : ∃ e, m = j + e := ⟨m - j, by omega⟩
  obtain ⟨h1, h2⟩ := andB_t.1 (allB_ok (show allB _ (Nat.sub 8 j) = true from h) e (show e < 8 - j by omega))
  exact gd_tell hX (tells_exX h8) h1 (gd_last hX h2)
theorem gd_vstep {VB : LSt} (h : cdL j V VB = true) (hb : j < m → GD X VB) : GD X (V (.x 8)) := by
  obtain ⟨h1, h2⟩ := andB_t.1 (show andB _ _ = true from h)
  obtain ⟨h2, h3⟩ := andB_t.1 h2
  obtain ⟨e, rfl⟩ : ∃ e, m = j + e := ⟨m - j, by omega⟩
  refine gd_tell hX (tells_exX h8) (allB_ok h1 e (show e < 8 - j by omega)) ?_
  match e with
  | 0 => exact gd_last hX h2
  | e + 1 => exact gd_tell hX (tells_exX h8) (allB_ok h3 e (show e < 7 - j by omega)) (hb (by omega))
end
noncomputable def cdt0 : LSt := .mk 41 [.c []] [(0, .i .i64 (.ofNat 3)), (1, .i .i64 (.ofNat 0))] [] 14 [.mk 10 [.c [true,true,true,true,true,true]] [(0, .x 7), (1, .x 8), (2, .x 9), (6, .b false), (14, .b false)] [] [false,true,true,true,true,true] 0 none]
noncomputable def cdt1 : LSt := .mk 266 [.c []] [(0, .p 1680 0), (1, .i .i64 (.ofNat 47))] [(17, .c [.sn, .i .i64 (.ofNat 0), .i .i64 (.ofNat 0), .sn, .sn, .sn, .i .i64 (.ofNat 0), .i .i64 (.ofNat 0)]),
  (32, .m [] 0),
  (33, .m [] 0),
  (34, .m [] 0),
  (36, .c [.i .i64 (.ofNat 262), .m 32, .sn, .m 33, .m 34, .i .i64 (.negSucc 0), .b false]),
  (87, .m [] 0),
  (88, .m [] 0),
  (90, .c [.p 36 0, .p 99 0, .p 580 0, .pn, .i .i64 (.ofNat 1), .i .i64 (.ofNat 3), .i .i64 (.ofNat 0), .i .i64 (.ofNat 0), .i .i64 (.ofNat 0), .mn, .mn, .mn, .i .i64 (.ofNat 0), .i .i64 (.ofNat 0), .m 87, .i .i64 (.ofNat 0), .i .i64 (.ofNat 0), .i .i64 (.ofNat 0), .sn, .m 88, .b false, .i .i64 (.ofNat 0), .i .i64 (.ofNat 0), .i .i64 (.ofNat 0), .sn, .i .i64 (.ofNat 0)]),
  (99, .c [.p 36 0, .i .i64 (.ofNat 0), .i .i64 (.ofNat 0), .i .i64 (.ofNat 0), .i .i64 (.ofNat 1), .i .i64 (.ofNat 0)]),
  (580, .c [.p 36 0, .i .i64 (.ofNat 2), .i .i64 (.negSucc 0), .i .i64 (.ofNat 0), .i .i64 (.ofNat 0), .i .i64 (.ofNat 0), .sn]),
  (1678, .m [] 0),
  (1680, .c [.p 36 0, .i .i64 (.ofNat 134), .i .i64 (.ofNat 64), .i .i64 (.ofNat 1), .sn, .m 1678]),
  (1892, .c [.i .i64 (.ofNat 0), .i .i64 (.ofNat 0), .s 0 0]),
  (1939, .c [.i .i64 (.ofNat 1), .i .i64 (.ofNat 0)]),
  (14820, .c [.i .i64 (.ofNat 0), .i .i64 (.ofNat 0), .i .i64 (.ofNat 0), .s 0 0])] 14855 [.mk 294 [.c [true,false,false,true,false,false,true,false,true,true,false,true,false,false,true,true,false,false,true,false,true], .b 3, .c [true,true,false,false,true,false,true,true,false,true,false,false,true,true,false,false,true,false,true], .l [false,false,true,false,true,true,false,true,false,false,true,true,false,false,true,false,true], .b 2, .c [true,true,true,false,true,false,false,true,true,false,false,true,false,true], .s [false,true,false,false,true,true,false,false,true,false,true], .b 1, .c [true,true,true,false,false,true,false,true], .l [false,false,true,false,true], .b 0, .c [true,true]] [(0, .p 1680 0), (1, .i .i64 (.ofNat 1)), (7, .b false), (11, .i .i64 (.ofNat 180)), (19, .i .i64 (.ofNat 1)), (9, .i .i64 (.ofNat 180)), (17, .sl 1939 0 2 1 (some 2)), (73, .b true), (13, .i .i64 (.ofNat 0)), (4, .i .i64 (.ofNat 0)), (8, .i .i64 (.ofNat 47)), (12, .p 14820 0), (20, .b true), (84, .b true), (60, .b false), (6, .i .i64 (.ofNat 0)), (10, .i .i64 (.ofNat 244)), (18, .i .i64 (.ofNat 2)), (34, .b true), (14, .i .i64 (.ofNat 0))] [(39, .i .i64 (.ofNat 47)), (38, .p 1680 0)] [false,false,false,true,false,false,true,false,true,true,false,true,false,false,true,true,false,false,true,false,true] 2 none,
  .mk 230 [.c [true,true,true,true,true,true]] [(0, .p 36 0), (1, .i .i64 (.ofNat 134)), (3, .i .i64 (.ofNat 1)), (15, .i .i64 (.ofNat 0)), (63, .b true), (11, .i .i64 (.ofNat 1)), (9, .i .i64 (.ofNat 0)), (13, .i .i64 (.ofNat 0)), (2, .i .i64 (.ofNat 64)), (8, .pn), (48, .b true), (12, .p 1892 0), (60, .b false), (92, .b false), (10, .p 1680 0), (34, .b false), (14, .i .i64 (.ofNat 0))] [(99, .i .i64 (.ofNat 1)), (98, .i .i64 (.ofNat 0)), (97, .p 1680 0), (96, .p 1680 0), (95, .p 1680 0)] [false,true,true,true,true,true] 5 none,
  .mk 179 [.c [true,true]] [(0, .p 90 0), (2, .i .i64 (.ofNat 0))] [(15, .i .i64 (.ofNat 1)), (14, .ag [.i .i64 (.ofNat 0), .i .i64 (.ofNat 0), .i .i64 (.ofNat 1), .i .i64 (.ofNat 0)]), (13, .p 99 0), (12, .p 90 1), (11, .p 90 0), (10, .p 90 0), (9, .p 36 0), (8, .p 90 0), (7, .p 90 0), (6, .p 90 0)] [false,true] 10 (some 1621),
  .mk 122 [.c [true,false,true,true,true,true,true,true,true,true,true], .c [true,true,true,true,true,true,true,true,true,true]] [(0, .p 36 0), (1, .i .i64 (.ofNat 1)), (7, .i .i64 (.ofNat 0)), (51, .b false), (9, .p 99 0), (57, .b false), (37, .b false), (77, .b false), (2, .i .i64 (.ofNat 3)), (8, .p 90 0), (6, .pn), (10, .i .i64 (.ofNat 0)), (62, .b false)] [(79, .p 90 0)] [false,false,true,true,true,true,true,true,true,true,true] 1 none,
  .mk 80 [.c [true,true]] [(0, .p 36 0), (1, .i .i64 (.ofNat 1)), (7, .i .i64 (.ofNat 0)), (2, .i .i64 (.ofNat 3)), (6, .pn)] [(14, .i .i64 (.ofNat 3)), (13, .i .i64 (.ofNat 1)), (12, .p 36 0)] [false,true] 3 none,
  .mk 41 [.c [true,true,false,false,true,false,false,true,false,true,true], .b 1, .c [true,true,false,false,true,false,true,true], .l [false,false,true,false,true,true], .b 0, .c [true,true,true]] [(0, .i .i64 (.ofNat 3)), (1, .i .i64 (.ofNat 0)), (7, .i .i64 (.ofNat 1)), (5, .i .i64 (.ofNat 0)), (4, .pn), (8, .p 36 0), (20, .b true), (6, .p 17 0)] [(27, .i .i64 (.ofNat 3)), (26, .i .i64 (.ofNat 1)), (25, .p 36 0)] [false,true,false,false,true,false,false,true,false,true,true] 3 none,
  .mk 10 [.c [true,true,true,true,true,true]] [(0, .x 7), (1, .x 8), (2, .x 9), (6, .b false), (14, .b false)] [] [false,true,true,true,true,true] 0 none]
noncomputable def cdt2 : LSt := .mk 294 [.c [true,true,true,false,false,true,false,false,true,false,true,true,false,true,false,false,true,true,false,false,true,false,true], .b 3, .c [true,true,false,false,true,false,true,true,false,true,false,false,true,true,false,false,true,false,true], .l [false,false,true,false,true,true,false,true,false,false,true,true,false,false,true,false,true], .b 2, .c [true,true,true,false,true,false,false,true,true,false,false,true,false,true], .s [false,true,false,false,true,true,false,false,true,false,true], .b 1, .c [true,true,true,false,false,true,false,true], .l [false,false,true,false,true], .b 0, .c [true,true]] [(0, .p 19085 0), (1, .i .i64 (.ofNat 1)), (7, .b false), (11, .i .i64 (.ofNat 158)), (19, .i .i64 (.ofNat 1)), (9, .i .i64 (.ofNat 158)), (17, .sl 19344 0 2 1 (some 2)), (73, .b true), (13, .i .i64 (.ofNat 0)), (4, .i .i64 (.ofNat 0)), (8, .i .i64 (.ofNat 24)), (12, .p 29651 0), (20, .b true), (84, .b true), (60, .b false), (6, .i .i64 (.ofNat 0)), (10, .i .i64 (.ofNat 222)), (18, .i .i64 (.ofNat 2)), (34, .b true), (14, .i .i64 (.ofNat 0))] [(17, .c [.sn, .i .i64 (.ofNat 0), .i .i64 (.ofNat 0), .sl 17408 0 1 1 none, .sl 17415 0 1 1 none, .sn, .i .i64 (.ofNat 0), .i .i64 (.ofNat 0)]),
  (32, .m [] 0),
  (33, .m [] 0),
  (34, .m [] 0),
  (36, .c [.i .i64 (.ofNat 262), .m 32, .sn, .m 33, .m 34, .i .i64 (.negSucc 0), .b false]),
  (87, .m [] 0),
  (88, .m [] 0),
  (90, .c [.p 36 0, .p 99 0, .p 580 0, .p 1680 0, .i .i64 (.ofNat 1), .i .i64 (.ofNat 3), .i .i64 (.ofNat 0), .i .i64 (.ofNat 0), .i .i64 (.ofNat 0), .mn, .mn, .mn, .i .i64 (.ofNat 0), .i .i64 (.ofNat 0), .m 87, .i .i64 (.ofNat 0), .i .i64 (.ofNat 0), .i .i64 (.ofNat 0), .sn, .m 88, .b false, .i .i64 (.ofNat 0), .i .i64 (.ofNat 0), .i .i64 (.ofNat 0), .sn, .i .i64 (.ofNat 0)]),
  (99, .c [.p 36 0, .i .i64 (.ofNat 0), .i .i64 (.ofNat 0), .i .i64 (.ofNat 0), .i .i64 (.ofNat 1), .i .i64 (.ofNat 0)]),
  (580, .c [.p 36 0, .i .i64 (.ofNat 2), .i .i64 (.negSucc 0), .i .i64 (.ofNat 0), .i .i64 (.ofNat 0), .i .i64 (.ofNat 0), .sn]),
  (1678, .m [] 0),
  (1680, .c [.p 36 0, .i .i64 (.ofNat 134), .i .i64 (.ofNat 64), .i .i64 (.ofNat 1), .sn, .m 1678]),
  (17066, .m [] 0),
  (17067, .m [] 0),
  (17069, .c [.p 90 0, .p 17288 0, .i .i64 (.ofNat 0), .m 17066, .m 17067]),
  (17268, .m [(.s 1 47, .ag [.s 0 0, .i .i64 (.ofNat 0), .i .i64 (.ofNat 0), .i .i64 (.ofNat 0), .i .i64 (.ofNat 0), .i .i64 (.ofNat 0), .i .i64 (.ofNat 0)], 0)] 1),
  (17273, .c [.m 17268]),
  (17277, .m [] 0),
  (17279, .c [.m 17277]),
  (17283, .m [] 0),
  (17285, .c [.sn, .sn, .m 17283]),
  (17288, .c [.p 17273 0, .p 17279 0, .p 17285 0, .i .i64 (.ofNat 0)]),
  (17408, .c [.p 36 0]),
  (17415, .c [.p 17069 0]),
  (17437, .m [] 0),
  (17438, .m [] 0),
  (17439, .m [] 0),
  (17441, .c [.i .i64 (.ofNat 262), .m 17437, .sn, .m 17438, .m 17439, .i .i64 (.negSucc 0), .b false]),
  (17492, .m [] 0),
  (17493, .m [] 0),
  (17495, .c [.p 17441 0, .p 17504 0, .p 17985 0, .pn, .i .i64 (.ofNat 2), .i .i64 (.ofNat 3), .i .i64 (.ofNat 0), .i .i64 (.ofNat 0), .i .i64 (.ofNat 0), .mn, .mn, .mn, .i .i64 (.ofNat 0), .i .i64 (.ofNat 0), .m 17492, .i .i64 (.ofNat 0), .i .i64 (.ofNat 0), .i .i64 (.ofNat 0), .sn, .m 17493, .b false, .i .i64 (.ofNat 0), .i .i64 (.ofNat 0), .i .i64 (.ofNat 0), .sn, .i .i64 (.ofNat 0)]),
  (17504, .c [.p 17441 0, .i .i64 (.ofNat 0), .i .i64 (.ofNat 0), .i .i64 (.ofNat 0), .i .i64 (.ofNat 1), .i .i64 (.ofNat 0)]),
  (17985, .c [.p 17441 0, .i .i64 (.ofNat 2), .i .i64 (.negSucc 0), .i .i64 (.ofNat 0), .i .i64 (.ofNat 0), .i .i64 (.ofNat 0), .sn]),
  (19083, .m [] 0),
  (19085, .c [.p 17441 0, .i .i64 (.ofNat 134), .i .i64 (.ofNat 64), .i .i64 (.ofNat 1), .sn, .m 19083]),
  (19297, .c [.i .i64 (.ofNat 0), .i .i64 (.ofNat 0), .s 0 0]),
  (19344, .c [.i .i64 (.ofNat 1), .i .i64 (.ofNat 0)]),
  (29651, .c [.i .i64 (.ofNat 0), .i .i64 (.ofNat 0), .i .i64 (.ofNat 0), .s 0 0])] 29655 [.mk 230 [.c [true,true,true,true,true,true]] [(0, .p 17441 0), (1, .i .i64 (.ofNat 134)), (3, .i .i64 (.ofNat 1)), (15, .i .i64 (.ofNat 0)), (63, .b true), (11, .i .i64 (.ofNat 1)), (9, .i .i64 (.ofNat 0)), (13, .i .i64 (.ofNat 0)), (2, .i .i64 (.ofNat 64)), (8, .pn), (48, .b true), (12, .p 19297 0), (60, .b false), (92, .b false), (10, .p 19085 0), (34, .b false), (14, .i .i64 (.ofNat 0))] [(99, .i .i64 (.ofNat 1)), (98, .i .i64 (.ofNat 0)), (97, .p 19085 0), (96, .p 19085 0), (95, .p 19085 0)] [false,true,true,true,true,true] 5 none,
  .mk 179 [.c [true,true]] [(0, .p 17495 0), (2, .i .i64 (.ofNat 0))] [(15, .i .i64 (.ofNat 1)), (14, .ag [.i .i64 (.ofNat 0), .i .i64 (.ofNat 0), .i .i64 (.ofNat 1), .i .i64 (.ofNat 0)]), (13, .p 17504 0), (12, .p 17495 1), (11, .p 17495 0), (10, .p 17495 0), (9, .p 17441 0), (8, .p 17495 0), (7, .p 17495 0), (6, .p 17495 0)] [false,true] 10 (some 19026),
  .mk 122 [.c [true,false,true,true,true,true,true,true,true,true,true], .c [true,true,true,true,true,true,true,true,true,true]] [(0, .p 17441 0), (1, .i .i64 (.ofNat 2)), (7, .i .i64 (.ofNat 0)), (51, .b false), (9, .p 17504 0), (57, .b false), (37, .b false), (77, .b false), (2, .i .i64 (.ofNat 3)), (8, .p 17495 0), (6, .pn), (10, .i .i64 (.ofNat 0)), (62, .b false)] [(79, .p 17495 0)] [false,false,true,true,true,true,true,true,true,true,true] 1 none,
  .mk 80 [.c [true,true]] [(0, .p 17441 0), (1, .i .i64 (.ofNat 2)), (7, .i .i64 (.ofNat 0)), (2, .i .i64 (.ofNat 3)), (6, .pn)] [(14, .i .i64 (.ofNat 3)), (13, .i .i64 (.ofNat 2)), (12, .p 17441 0)] [false,true] 3 none,
  .mk 41 [.c [true,true,false,false,true,false,false,true,false,true,true], .b 1, .c [true,true,false,false,true,false,true,true], .l [false,false,true,false,true,true], .b 0, .c [true,true,true]] [(0, .i .i64 (.ofNat 3)), (1, .i .i64 (.ofNat 0)), (7, .i .i64 (.ofNat 2)), (5, .i .i64 (.ofNat 0)), (9, .p 17069 0), (4, .pn), (8, .p 17441 0), (32, .b false), (20, .b true), (6, .p 17 0), (10, .i .i64 (.ofNat 0))] [(27, .i .i64 (.ofNat 3)), (26, .i .i64 (.ofNat 2)), (25, .p 17441 0)] [false,true,false,false,true,false,false,true,false,true,true] 3 none,
  .mk 10 [.c [true,true,true,true,true,true]] [(0, .x 7), (1, .x 8), (2, .x 9), (6, .b false), (14, .b false)] [] [false,true,true,true,true,true] 0 none]
noncomputable def cdt3 : LSt := .mk 207 [.c [true,false,true,true], .c [true,true,true]] [(0, .p 34846 0), (1, .i .i64 (.ofNat 136)), (7, .s 0 0), (5, .i .i64 (.ofNat 0)), (17, .i .i64 (.ofNat 0)), (4, .p 44441 0), (8, .i .i64 (.ofNat 0)), (6, .i .i64 (.ofNat 0))] [(17, .c [.sn, .i .i64 (.ofNat 0), .i .i64 (.ofNat 0), .sl 34813 0 2 1 none, .sl 34820 0 2 1 none, .sn, .i .i64 (.ofNat 0), .i .i64 (.ofNat 0)]),
  (32, .m [] 0),
  (33, .m [] 0),
  (34, .m [] 0),
  (36, .c [.i .i64 (.ofNat 262), .m 32, .sn, .m 33, .m 34, .i .i64 (.negSucc 0), .b false]),
  (87, .m [] 0),
  (88, .m [] 0),
  (90, .c [.p 36 0, .p 99 0, .p 580 0, .p 1680 0, .i .i64 (.ofNat 1), .i .i64 (.ofNat 3), .i .i64 (.ofNat 0), .i .i64 (.ofNat 0), .i .i64 (.ofNat 0), .mn, .mn, .mn, .i .i64 (.ofNat 0), .i .i64 (.ofNat 0), .m 87, .i .i64 (.ofNat 0), .i .i64 (.ofNat 0), .i .i64 (.ofNat 0), .sn, .m 88, .b false, .i .i64 (.ofNat 0), .i .i64 (.ofNat 0), .i .i64 (.ofNat 0), .sn, .i .i64 (.ofNat 0)]),
  (99, .c [.p 36 0, .i .i64 (.ofNat 0), .i .i64 (.ofNat 0), .i .i64 (.ofNat 0), .i .i64 (.ofNat 1), .i .i64 (.ofNat 0)]),
  (580, .c [.p 36 0, .i .i64 (.ofNat 2), .i .i64 (.negSucc 0), .i .i64 (.ofNat 0), .i .i64 (.ofNat 0), .i .i64 (.ofNat 0), .sn]),
  (1678, .m [] 0),
  (1680, .c [.p 36 0, .i .i64 (.ofNat 134), .i .i64 (.ofNat 64), .i .i64 (.ofNat 1), .sn, .m 1678]),
  (17066, .m [] 0),
  (17067, .m [] 0),
  (17069, .c [.p 90 0, .p 17288 0, .i .i64 (.ofNat 0), .m 17066, .m 17067]),
  (17268, .m [(.s 1 47, .ag [.s 0 0, .i .i64 (.ofNat 0), .i .i64 (.ofNat 0), .i .i64 (.ofNat 0), .i .i64 (.ofNat 0), .i .i64 (.ofNat 0), .i .i64 (.ofNat 0)], 0)] 1),
  (17273, .c [.m 17268]),
  (17277, .m [] 0),
  (17279, .c [.m 17277]),
  (17283, .m [] 0),
  (17285, .c [.sn, .sn, .m 17283]),
  (17288, .c [.p 17273 0, .p 17279 0, .p 17285 0, .i .i64 (.ofNat 0)]),
  (17437, .m [] 0),
  (17438, .m [] 0),
  (17439, .m [] 0),
  (17441, .c [.i .i64 (.ofNat 262), .m 17437, .sn, .m 17438, .m 17439, .i .i64 (.negSucc 0), .b false]),
  (17492, .m [] 0),
  (17493, .m [] 0),
  (17495, .c [.p 17441 0, .p 17504 0, .p 17985 0, .p 19085 0, .i .i64 (.ofNat 2), .i .i64 (.ofNat 3), .i .i64 (.ofNat 0), .i .i64 (.ofNat 0), .i .i64 (.ofNat 0), .mn, .mn, .mn, .i .i64 (.ofNat 0), .i .i64 (.ofNat 0), .m 17492, .i .i64 (.ofNat 0), .i .i64 (.ofNat 0), .i .i64 (.ofNat 0), .sn, .m 17493, .b false, .i .i64 (.ofNat 0), .i .i64 (.ofNat 0), .i .i64 (.ofNat 0), .sn, .i .i64 (.ofNat 0)]),
  (17504, .c [.p 17441 0, .i .i64 (.ofNat 0), .i .i64 (.ofNat 0), .i .i64 (.ofNat 0), .i .i64 (.ofNat 1), .i .i64 (.ofNat 0)]),
  (17985, .c [.p 17441 0, .i .i64 (.ofNat 2), .i .i64 (.negSucc 0), .i .i64 (.ofNat 0), .i .i64 (.ofNat 0), .i .i64 (.ofNat 0), .sn]),
  (19083, .m [] 0),
  (19085, .c [.p 17441 0, .i .i64 (.ofNat 134), .i .i64 (.ofNat 64), .i .i64 (.ofNat 1), .sn, .m 19083]),
  (34471, .m [] 0),
  (34472, .m [] 0),
  (34474, .c [.p 17495 0, .p 34693 0, .i .i64 (.ofNat 0), .m 34471, .m 34472]),
  (34673, .m [(.s 1 47, .ag [.s 0 0, .i .i64 (.ofNat 0), .i .i64 (.ofNat 0), .i .i64 (.ofNat 0), .i .i64 (.ofNat 0), .i .i64 (.ofNat 0), .i .i64 (.ofNat 0)], 0)] 1),
  (34678, .c [.m 34673]),
  (34682, .m [] 0),
  (34684, .c [.m 34682]),
  (34688, .m [] 0),
  (34690, .c [.sn, .sn, .m 34688]),
  (34693, .c [.p 34678 0, .p 34684 0, .p 34690 0, .i .i64 (.ofNat 0)]),
  (34813, .c [.p 36 0, .p 17441 0]),
  (34820, .c [.p 17069 0, .p 34474 0]),
  (34842, .m [] 0),
  (34843, .m [] 0),
  (34844, .m [] 0),
  (34846, .c [.i .i64 (.ofNat 262), .m 34842, .sn, .m 34843, .m 34844, .i .i64 (.negSucc 0), .b false]),
  (34897, .m [] 0),
  (34898, .m [] 0),
  (34900, .c [.p 34846 0, .p 34909 0, .p 35390 0, .pn, .i .i64 (.ofNat 3), .i .i64 (.ofNat 3), .i .i64 (.ofNat 0), .i .i64 (.ofNat 0), .i .i64 (.ofNat 0), .mn, .mn, .mn, .i .i64 (.ofNat 0), .i .i64 (.ofNat 0), .m 34897, .i .i64 (.ofNat 0), .i .i64 (.ofNat 0), .i .i64 (.ofNat 0), .sn, .m 34898, .b false, .i .i64 (.ofNat 0), .i .i64 (.ofNat 0), .i .i64 (.ofNat 0), .sn, .i .i64 (.ofNat 0)]),
  (34909, .c [.p 34846 0, .i .i64 (.ofNat 0), .i .i64 (.ofNat 0), .i .i64 (.ofNat 0), .i .i64 (.ofNat 1), .i .i64 (.ofNat 0)]),
  (35390, .c [.p 34846 0, .i .i64 (.ofNat 2), .i .i64 (.negSucc 0), .i .i64 (.ofNat 0), .i .i64 (.ofNat 0), .i .i64 (.ofNat 0), .sn]),
  (36488, .m [] 0),
  (36490, .c [.p 34846 0, .i .i64 (.ofNat 134), .i .i64 (.ofNat 64), .i .i64 (.ofNat 1), .sn, .m 36488]),
  (36702, .c [.i .i64 (.ofNat 0), .i .i64 (.ofNat 0), .s 0 0]),
  (36749, .c [.i .i64 (.ofNat 1), .i .i64 (.ofNat 0)]),
  (44365, .c [.i .i64 (.ofNat 0), .i .i64 (.ofNat 0), .i .i64 (.ofNat 0), .s 0 0]),
  (44441, .c [.i .i64 (.ofNat 0), .i .i64 (.ofNat 0), .i .i64 (.ofNat 0), .s 0 0])] 44454 [.mk 294 [.c [true,true,true,false,false,true,false,false,true,false,true,true,false,true,false,false,true,true,false,false,true,false,true], .b 3, .c [true,true,false,false,true,false,true,true,false,true,false,false,true,true,false,false,true,false,true], .l [false,false,true,false,true,true,false,true,false,false,true,true,false,false,true,false,true], .b 2, .c [true,true,true,false,true,false,false,true,true,false,false,true,false,true], .s [false,true,false,false,true,true,false,false,true,false,true], .b 1, .c [true,true,true,false,false,true,false,true], .l [false,false,true,false,true], .b 0, .c [true,true]] [(0, .p 36490 0), (1, .i .i64 (.ofNat 1)), (7, .b false), (11, .i .i64 (.ofNat 136)), (19, .i .i64 (.ofNat 1)), (9, .i .i64 (.ofNat 136)), (17, .sl 36749 0 2 1 (some 2)), (73, .b true), (13, .i .i64 (.ofNat 0)), (4, .i .i64 (.ofNat 0)), (8, .i .i64 (.ofNat 2)), (12, .p 44365 0), (20, .b true), (84, .b true), (60, .b false), (6, .i .i64 (.ofNat 0)), (10, .i .i64 (.ofNat 200)), (18, .i .i64 (.ofNat 2)), (34, .b true), (14, .i .i64 (.ofNat 0))] [(54, .i .i64 (.ofNat 136)), (53, .p 34846 0), (52, .p 36490 0), (51, .p 36490 0), (50, .p 36490 0)] [false,true,true,false,false,true,false,false,true,false,true,true,false,true,false,false,true,true,false,false,true,false,true] 5 none,
  .mk 230 [.c [true,true,true,true,true,true]] [(0, .p 34846 0), (1, .i .i64 (.ofNat 134)), (3, .i .i64 (.ofNat 1)), (15, .i .i64 (.ofNat 0)), (63, .b true), (11, .i .i64 (.ofNat 1)), (9, .i .i64 (.ofNat 0)), (13, .i .i64 (.ofNat 0)), (2, .i .i64 (.ofNat 64)), (8, .pn), (48, .b true), (12, .p 36702 0), (60, .b false), (92, .b false), (10, .p 36490 0), (34, .b false), (14, .i .i64 (.ofNat 0))] [(99, .i .i64 (.ofNat 1)), (98, .i .i64 (.ofNat 0)), (97, .p 36490 0), (96, .p 36490 0), (95, .p 36490 0)] [false,true,true,true,true,true] 5 none,
  .mk 179 [.c [true,true]] [(0, .p 34900 0), (2, .i .i64 (.ofNat 0))] [(15, .i .i64 (.ofNat 1)), (14, .ag [.i .i64 (.ofNat 0), .i .i64 (.ofNat 0), .i .i64 (.ofNat 1), .i .i64 (.ofNat 0)]), (13, .p 34909 0), (12, .p 34900 1), (11, .p 34900 0), (10, .p 34900 0), (9, .p 34846 0), (8, .p 34900 0), (7, .p 34900 0), (6, .p 34900 0)] [false,true] 10 (some 36431),
  .mk 122 [.c [true,false,true,true,true,true,true,true,true,true,true], .c [true,true,true,true,true,true,true,true,true,true]] [(0, .p 34846 0), (1, .i .i64 (.ofNat 3)), (7, .i .i64 (.ofNat 0)), (51, .b false), (9, .p 34909 0), (57, .b false), (37, .b false), (77, .b false), (2, .i .i64 (.ofNat 3)), (8, .p 34900 0), (6, .pn), (10, .i .i64 (.ofNat 0)), (62, .b false)] [(79, .p 34900 0)] [false,false,true,true,true,true,true,true,true,true,true] 1 none,
  .mk 80 [.c [true,true]] [(0, .p 34846 0), (1, .i .i64 (.ofNat 3)), (7, .i .i64 (.ofNat 0)), (2, .i .i64 (.ofNat 3)), (6, .pn)] [(14, .i .i64 (.ofNat 3)), (13, .i .i64 (.ofNat 3)), (12, .p 34846 0)] [false,true] 3 none,
  .mk 41 [.c [true,true,false,false,true,false,false,true,false,true,true], .b 1, .c [true,true,false,false,true,false,true,true], .l [false,false,true,false,true,true], .b 0, .c [true,true,true]] [(0, .i .i64 (.ofNat 3)), (1, .i .i64 (.ofNat 0)), (7, .i .i64 (.ofNat 3)), (5, .i .i64 (.ofNat 0)), (9, .p 34474 0), (4, .pn), (8, .p 34846 0), (32, .b false), (20, .b true), (6, .p 17 0), (10, .i .i64 (.ofNat 0))] [(27, .i .i64 (.ofNat 3)), (26, .i .i64 (.ofNat 3)), (25, .p 34846 0)] [false,true,false,false,true,false,false,true,false,true,true] 3 none,
  .mk 10 [.c [true,true,true,true,true,true]] [(0, .x 7), (1, .x 8), (2, .x 9), (6, .b false), (14, .b false)] [] [false,true,true,true,true,true] 0 none]
def cd0 (r s u : Nat) : LSt := .mk 10 [.c []] (argL [.x (cod r 6 0), .x (cod s 3 1), .x (cod u 2 2)] 0) [] 0 []
theorem cdb : allB (fun a => allB (fun b => allB (fun c => cdW (orD (exX 7 (.ofNat a)) (orD (exX 8 (.ofNat b)) (exX 9 (.ofNat c)))) cdt0 (cd0 a b c) 15) 4) 8) 64 = true := by kernel_rfl
theorem cdp0 : cdQ cdt1 cdt0 8000 = true := by kernel_rfl
theorem cdp1 : cdQ cdt2 cdt1 8000 = true := by kernel_rfl
theorem cdp2 : cdQ cdt3 cdt2 8000 = true := by kernel_rfl

end Go.Proofs.YtegafdkhbgojcaaGreatDoor.Ek
