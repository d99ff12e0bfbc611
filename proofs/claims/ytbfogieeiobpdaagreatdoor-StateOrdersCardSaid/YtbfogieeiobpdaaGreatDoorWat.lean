/- Contracts of the package watch, first part: the order of watches. No condition. -/
import Derived.Test.YtbfogieeiobpdaaGreatDoorPithM
import Derived.Test.YtbfogieeiobpdaaGreatDoorShelf
set_option linter.unusedVariables false
namespace Go.Proofs.YtbfogieeiobpdaaGreatDoor
open Go.RowKit

/-- a watch: session, path, kids, once -/
structure WatT where
  session : Int
  path : List UInt8
  kids : Bool
  once : Bool
deriving DecidableEq
def watC (x : WatT) : List Value := [.int .i64 x.session, .string (S x.path), .bool x.kids, .bool x.once]
abbrev watV (x : WatT) : Value := .agg #[.int .i64 x.session, .string (S x.path), .bool x.kids, .bool x.once]

def cmpI (a b : Int) : Int := if a < b then -1 else if b < a then 1 else 0
def cmpS (a b : List UInt8) : Int := if Op.bytesLess a b = true then -1 else if a = b then 0 else 1
def oneF (b : Bool) : Int := if b = true then 1 else 0
/-- the first that is not zero -/
def orF : List Int → Int
  | [] => 0
  | x :: r => if x = 0 then orF r else x
def ordF (x y : WatT) : Int := orF [cmpI x.session y.session, cmpS x.path y.path, cmpI (oneF x.kids) (oneF y.kids), cmpI (oneF x.once) (oneF y.once)]

theorem one_watch (w : World) (b : Bool) : Calls Tryz.prog 95 #[.bool b] w fun e w' => e = .returned (.int .i64 (oneF b)) ∧ w = w' := by
  cases b
  all_goals
    go_enter Tryz.func95, Tryz.ntmps95
    go_wp2_with fail
    go_ret
    exact ⟨rfl, rfl⟩
theorem cmp_int (w : World) (x y : Int) : Calls Tryz.prog 97 #[.int .i64 x, .int .i64 y] w fun e w' => e = .returned (.int .i64 (cmpI x y)) ∧ w = w' := by
  refine (Tryz.cmp_Compare_int x y w).mono ?_
  rintro e w' ⟨rfl, rfl⟩
  refine ⟨congrArg (fun i => Ending.returned (.int .i64 i)) ?_, rfl⟩
  unfold Lib.compareInt cmpI
  by_cases h1 : x < y
  · simp [h1]
  · by_cases h2 : y < x
    · simp [h1, h2]
    · simp [h1, h2]
theorem nan_str (w : World) (x : ByteArray) : Calls Tryz.prog 132 #[.string x] w fun e w' => e = .returned (.bool false) ∧ w = w' := by
  go_enter Tryz.func132, Tryz.ntmps132
  go_wp2_with fail
  go_ret
  exact ⟨by simp, rfl⟩
theorem cmp_str (w : World) (x y : List UInt8) : Calls Tryz.prog 98 #[.string (S x), .string (S y)] w fun e w' => e = .returned (.int .i64 (cmpS x y)) ∧ w = w' := by
  have HC : Hid (cmpS x y = if Op.bytesLess x y = true then -1 else if x = y then 0 else 1) := rfl
  generalize cmpS x y = C at *
  cases h1 : Op.bytesLess x y
  · by_cases h2 : x = y
    · have hC : C = 0 := by rw [HC.out, h1, if_neg (by simp), if_pos h2]
      have hb : (x == y) = true := by simpa using h2
      subst hC
      clear h2 HC
      go_enter Tryz.func98, Tryz.ntmps98
      go_wp2_with fail
      refine (nan_str w (S x)).mono ?_
      rintro e w1 ⟨rfl, rfl⟩
      go_wp2_with fail
      refine (nan_str w (S y)).mono ?_
      rintro e w1 ⟨rfl, rfl⟩
      go_wp2_with fail
      go_ret
      exact ⟨rfl, rfl⟩
    · have hC : C = 1 := by rw [HC.out, h1, if_neg (by simp), if_neg h2]
      have hb : (x == y) = false := by simpa using h2
      subst hC
      clear h2 HC
      go_enter Tryz.func98, Tryz.ntmps98
      go_wp2_with fail
      refine (nan_str w (S x)).mono ?_
      rintro e w1 ⟨rfl, rfl⟩
      go_wp2_with fail
      refine (nan_str w (S y)).mono ?_
      rintro e w1 ⟨rfl, rfl⟩
      go_wp2_with fail
      go_ret
      exact ⟨rfl, rfl⟩
  · have hC : C = -1 := by rw [HC.out, h1, if_pos rfl]
    subst hC
    clear HC
    go_enter Tryz.func98, Tryz.ntmps98
    go_wp2_with fail
    refine (nan_str w (S x)).mono ?_
    rintro e w1 ⟨rfl, rfl⟩
    go_wp2_with fail
    refine (nan_str w (S y)).mono ?_
    rintro e w1 ⟨rfl, rfl⟩
    go_wp2_with fail
    go_ret
    exact ⟨rfl, rfl⟩

theorem or_cmp (w : World) (A : Option Addr) (ns : List Int) (c : Nat) (h : Src w 1 A ns.length (Is ns)) (hl : ns.length ≤ 1000) :
    Calls Tryz.prog 96 #[.slice A ns.length c] w fun e w' => e = .returned (.int .i64 (orF ns)) ∧ w = w' := by
  go_enter Tryz.func96, Tryz.ntmps96
  go_wp2_with fail
  go_loopw [8] (fun i wr => ∃ k : Nat, k ≤ ns.length ∧ i = .int .i64 k ∧ orF (ns.drop k) = orF ns ∧ w = wr) (fun i _ => ns.length - (RowKit.intOf i).toNat)
  case atStart => exact ⟨0, by omega, rfl, rfl, rfl⟩
  case round =>
    obtain ⟨k, hk, rfl, he, rfl⟩ := hrel
    have HE := hide he
    clear he
    by_cases hlt : k < ns.length
    · obtain ⟨ad, u, rfl, hu, hc⟩ := h.at_ hlt
      simp only [Is, List.getElem?_map, Option.map_eq_some_iff] at hu
      obtain ⟨x, hx, rfl⟩ := hu
      have hd : ns.drop k = x :: ns.drop (k + 1) := by
        obtain ⟨hk', rfl⟩ := List.getElem?_eq_some_iff.1 hx
        exact List.drop_eq_getElem_cons hk'
      rw [hd] at HE
      clear hx hd
      by_cases h0 : x = 0
      · subst h0
        have HE2 : Hid (orF (ns.drop (k + 1)) = orF ns) := HE.out
        go_wp2_with fail
        go_roundw
        case rel => exact ⟨k + 1, by omega, by go_num, HE2.out, by first | rfl | trivial⟩
        case measure => simp [RowKit.intOf]; omega
      · have h0b : (x != 0) = true := by simpa using h0
        have HE2 : Hid (x = orF ns) := by
          have := HE.out
          rw [orF, if_neg h0] at this
          exact this
        clear h0
        go_wp2_with fail
        go_ret
        first | exact ⟨by rw [← HE2.out]; rfl, rfl⟩ | exact ⟨HE2.out, trivial⟩ | exact ⟨HE2.out, rfl⟩
    · obtain rfl : k = ns.length := by omega
      have HE2 : Hid (0 = orF ns) := by
        have := HE.out
        rw [List.drop_length] at this
        exact this
      go_wp2_with fail
      go_ret
      first | exact ⟨by rw [← HE2.out]; rfl, rfl⟩ | exact ⟨HE2.out, trivial⟩ | exact ⟨HE2.out, rfl⟩

theorem src4 (w : World) (a b c d : Int) (t : TypeId) : Src ((w.alloc (.cells #[.int .i64 a, .int .i64 b, .int .i64 c, .int .i64 d] t)).drew) 1 (some ⟨w.heap.size, 0, none⟩) [a, b, c, d].length (Is [a, b, c, d]) :=
  Src.block (w := (w.alloc (.cells #[.int .i64 a, .int .i64 b, .int .i64 c, .int .i64 d] t)).drew) (heap_alloc_new w _) 1 4 rfl
set_option maxRecDepth 100000 in
set_option maxHeartbeats 4000000 in
theorem order_watch (w : World) (x y : WatT) :
    Calls Tryz.prog 59 #[watV x, watV y] w fun e w' => e = .returned (.int .i64 (ordF x y)) ∧ Keeps (fun _ => False) w w' := by
  have HO : Hid (ordF x y = orF [cmpI x.session y.session, cmpS x.path y.path, cmpI (oneF x.kids) (oneF y.kids), cmpI (oneF x.once) (oneF y.once)]) := rfl
  obtain ⟨s1, p1, k1, o1⟩ := x
  obtain ⟨s2, p2, k2, o2⟩ := y
  simp only at HO ⊢
  generalize ordF _ _ = R at *
  go_enter Tryz.func59, Tryz.ntmps59
  go_upto_region 2 with fail
  have S0 := ((Sat.start w).box #[.int .i64 s1, .string (S p1), .bool k1, .bool o1] 96 rfl).box #[.int .i64 s2, .string (S p2), .bool k2, .bool o2] 96 (b := w.heap.size + 1) (by simp)
  generalize (w.alloc (.cells #[.int .i64 s1, .string (S p1), .bool k1, .bool o1] 96)).alloc (.cells #[.int .i64 s2, .string (S p2), .bool k2, .bool o2] 96) = w2 at *
  obtain ⟨b1, hb1⟩ : ∃ b, w.heap.size = b := ⟨_, rfl⟩
  rw [hb1] at S0 ⊢
  clear hb1
  have x00 : w2.cell? ⟨b1, 0, none⟩ = some (.int .i64 s1) := S0.cell_of (t := 96) (cs := #[.int .i64 s1, .string (S p1), .bool k1, .bool o1]) (by simp) 0 _ rfl
  have x01 : w2.cell? ⟨b1, 1, none⟩ = some (.string (S p1)) := S0.cell_of (t := 96) (cs := #[.int .i64 s1, .string (S p1), .bool k1, .bool o1]) (by simp) 1 _ rfl
  have x02 : w2.cell? ⟨b1, 2, none⟩ = some (.bool k1) := S0.cell_of (t := 96) (cs := #[.int .i64 s1, .string (S p1), .bool k1, .bool o1]) (by simp) 2 _ rfl
  have x03 : w2.cell? ⟨b1, 3, none⟩ = some (.bool o1) := S0.cell_of (t := 96) (cs := #[.int .i64 s1, .string (S p1), .bool k1, .bool o1]) (by simp) 3 _ rfl
  have x10 : w2.cell? ⟨b1 + 1, 0, none⟩ = some (.int .i64 s2) := S0.cell_of (t := 96) (cs := #[.int .i64 s2, .string (S p2), .bool k2, .bool o2]) (by simp) 0 _ rfl
  have x11 : w2.cell? ⟨b1 + 1, 1, none⟩ = some (.string (S p2)) := S0.cell_of (t := 96) (cs := #[.int .i64 s2, .string (S p2), .bool k2, .bool o2]) (by simp) 1 _ rfl
  have x12 : w2.cell? ⟨b1 + 1, 2, none⟩ = some (.bool k2) := S0.cell_of (t := 96) (cs := #[.int .i64 s2, .string (S p2), .bool k2, .bool o2]) (by simp) 2 _ rfl
  have x13 : w2.cell? ⟨b1 + 1, 3, none⟩ = some (.bool o2) := S0.cell_of (t := 96) (cs := #[.int .i64 s2, .string (S p2), .bool k2, .bool o2]) (by simp) 3 _ rfl
  have HK := hide (S0.p2.keep_all)
  go_region_held3 (fun w' => w'.cell? ⟨b1, 0, none⟩ = some (.int .i64 s1) ∧ w'.cell? ⟨b1, 1, none⟩ = some (.string (S p1)) ∧ w'.cell? ⟨b1, 2, none⟩ = some (.bool k1) ∧ w'.cell? ⟨b1, 3, none⟩ = some (.bool o1) ∧ w'.cell? ⟨b1 + 1, 0, none⟩ = some (.int .i64 s2) ∧ w'.cell? ⟨b1 + 1, 1, none⟩ = some (.string (S p2)) ∧ w'.cell? ⟨b1 + 1, 2, none⟩ = some (.bool k2) ∧ w'.cell? ⟨b1 + 1, 3, none⟩ = some (.bool o2)) (go_keep) (first
    | (go_at_call 97; refine (cmp_int _ _ _).mono ?_; rintro e w3 ⟨rfl, rfl⟩)
    | (go_at_call 98; refine (cmp_str _ _ _).mono ?_; rintro e w3 ⟨rfl, rfl⟩)
    | (go_at_call 95; refine (one_watch _ _).mono ?_; rintro e w3 ⟨rfl, rfl⟩)
    | (go_at_call 96; refine (or_cmp _ _ [cmpI s1 s2, cmpS p1 p2, cmpI (oneF k1) (oneF k2), cmpI (oneF o1) (oneF o2)] 4 (src4 _ _ _ _ _ _) (Nat.le_of_ble_eq_true rfl)).mono ?_; rintro e w3 ⟨rfl, rfl⟩))
  all_goals
    go_wp2_with fail
    go_ret
    refine ⟨?_, ?_⟩
    · rw [HO.out]; rfl
    · repeat (first | exact HK.out | refine Keeps.alloc ?_ _ | refine Keeps.drew ?_ | refine Keeps.drewN ?_ _)

end Go.Proofs.YtbfogieeiobpdaaGreatDoor
