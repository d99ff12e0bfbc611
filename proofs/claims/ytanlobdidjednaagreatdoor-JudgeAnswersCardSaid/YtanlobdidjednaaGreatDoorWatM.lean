/- Contracts of the package watch, first part: the order of watches. No condition. slices.IndexFunc and slices.DeleteFunc at watches and events, with a closure that may turn memory of its own. No condition. slices.Insert of one watch. No condition. slices.Insert of one watch. No condition. slices.Insert of one watch: all cases. No condition. slices.Insert of one watch. No condition. Contracts of the package watch: a book: New, Clone of rows, hears, the closures. No condition. Contracts of the package watch: the closures of Drop and Noted; Drop, Noted, Events, Watches. No condition. Contracts of the package watch: Watches, Events, Noted, Drop of a book. No condition. Contracts of the package watch: Noted, Drop of a book. No condition. Contracts of the package watch: the closure of Fire. No condition. Contracts of the package watch: Fire of a book. No condition. slices.BinarySearchFunc at watches, by their order. No condition. Contracts of the package watch: Add of a book. No condition. Plain laws of the order of watches: it is linear; where a watch stands in a sorted row. No condition. What stays true of a book, behind m changes. No condition. -/
import Derived.Test.YtanlobdidjednaaGreatDoorPithM
import Derived.Test.YtanlobdidjednaaGreatDoorShelf
import Derived.Test.YtanlobdidjednaaGreatDoorFullM
import Derived.Shelf.Abstract
import Derived.Laws.Externs
import Derived.Test.YtanlobdidjednaaGreatDoorPathM
import Derived.Test.YtanlobdidjednaaGreatDoorLow
import Derived.StillTailTactics
namespace Go.Proofs.YtanlobdidjednaaGreatDoor
section
set_option linter.unusedVariables false
open Go.RowKit

/-- a watch: session, path, kids, once -/
structure WatT where
  session : Int
  path : List UInt8
  kids : Bool
  once : Bool
deriving DecidableEq
def watC (x : WatT) : List Value := [.int .i64 x.session, .string (S x.path), .bool x.kids, .bool x.once]
abbrev watV (x : WatT) : Value := .agg #[.int .i64 x.session, .string (S x.path), .bool x.kids, .bool x.once]

def cmpI (a b : Int) : Int := if a < b then -1 else if b < a then 1 else 0
def cmpS (a b : List UInt8) : Int := if Op.bytesLess a b = true then -1 else if a = b then 0 else 1
def oneF (b : Bool) : Int := if b = true then 1 else 0
/-- the first that is not zero -/
def orF : List Int → Int
  | [] => 0
  | x :: r => if x = 0 then orF r else x
def ordF (x y : WatT) : Int := orF [cmpI x.session y.session, cmpS x.path y.path, cmpI (oneF x.kids) (oneF y.kids), cmpI (oneF x.once) (oneF y.once)]

theorem one_watch (w : World) (b : Bool) : Calls Tryz.prog 114 #[.bool b] w fun e w' => e = .returned (.int .i64 (oneF b)) ∧ w = w' := by
  cases b
  all_goals
    go_enter Tryz.func114, Tryz.ntmps114
    go_wp2_with fail
    go_ret
    exact ⟨rfl, rfl⟩
theorem cmp_int (w : World) (x y : Int) : Calls Tryz.prog 116 #[.int .i64 x, .int .i64 y] w fun e w' => e = .returned (.int .i64 (cmpI x y)) ∧ w = w' := by
  refine (Tryz.cmp_Compare_int x y w).mono ?_
  rintro e w' ⟨rfl, rfl⟩
  refine ⟨congrArg (fun i => Ending.returned (.int .i64 i)) ?_, rfl⟩
  unfold Lib.compareInt cmpI
  by_cases h1 : x < y
  · simp [h1]
  · by_cases h2 : y < x
    · simp [h1, h2]
    · simp [h1, h2]
theorem nan_str (w : World) (x : ByteArray) : Calls Tryz.prog 131 #[.string x] w fun e w' => e = .returned (.bool false) ∧ w = w' := by
  go_enter Tryz.func131, Tryz.ntmps131
  go_wp2_with fail
  go_ret
  exact ⟨by simp, rfl⟩
theorem cmp_str (w : World) (x y : List UInt8) : Calls Tryz.prog 117 #[.string (S x), .string (S y)] w fun e w' => e = .returned (.int .i64 (cmpS x y)) ∧ w = w' := by
  have HC : Hid (cmpS x y = if Op.bytesLess x y = true then -1 else if x = y then 0 else 1) := rfl
  generalize cmpS x y = C at *
  cases h1 : Op.bytesLess x y
  · by_cases h2 : x = y
    · have hC : C = 0 := by rw [HC.out, h1, if_neg (by simp), if_pos h2]
      have hb : (x == y) = true := by simpa using h2
      subst hC
      clear h2 HC
      go_enter Tryz.func117, Tryz.ntmps117
      go_wp2_with fail
      refine (nan_str w (S x)).mono ?_
      rintro e w1 ⟨rfl, rfl⟩
      go_wp2_with fail
      refine (nan_str w (S y)).mono ?_
      rintro e w1 ⟨rfl, rfl⟩
      go_wp2_with fail
      go_ret
      exact ⟨rfl, rfl⟩
    · have hC : C = 1 := by rw [HC.out, h1, if_neg (by simp), if_neg h2]
      have hb : (x == y) = false := by simpa using h2
      subst hC
      clear h2 HC
      go_enter Tryz.func117, Tryz.ntmps117
      go_wp2_with fail
      refine (nan_str w (S x)).mono ?_
      rintro e w1 ⟨rfl, rfl⟩
      go_wp2_with fail
      refine (nan_str w (S y)).mono ?_
      rintro e w1 ⟨rfl, rfl⟩
      go_wp2_with fail
      go_ret
      exact ⟨rfl, rfl⟩
  · have hC : C = -1 := by rw [HC.out, h1, if_pos rfl]
    subst hC
    clear HC
    go_enter Tryz.func117, Tryz.ntmps117
    go_wp2_with fail
    refine (nan_str w (S x)).mono ?_
    rintro e w1 ⟨rfl, rfl⟩
    go_wp2_with fail
    refine (nan_str w (S y)).mono ?_
    rintro e w1 ⟨rfl, rfl⟩
    go_wp2_with fail
    go_ret
    exact ⟨rfl, rfl⟩

theorem or_cmp (w : World) (A : Option Addr) (ns : List Int) (c : Nat) (h : Src w 1 A ns.length (Is ns)) (hl : ns.length ≤ 1000) :
    Calls Tryz.prog 115 #[.slice A ns.length c] w fun e w' => e = .returned (.int .i64 (orF ns)) ∧ w = w' := by
  go_enter Tryz.func115, Tryz.ntmps115
  go_wp2_with fail
  go_loopw [8] (fun i wr => ∃ k : Nat, k ≤ ns.length ∧ i = .int .i64 k ∧ orF (ns.drop k) = orF ns ∧ w = wr) (fun i _ => ns.length - (RowKit.intOf i).toNat)
  case atStart => exact ⟨0, by omega, rfl, rfl, rfl⟩
  case round =>
    obtain ⟨k, hk, rfl, he, rfl⟩ := hrel
    have HE := hide he
    clear he
    by_cases hlt : k < ns.length
    · obtain ⟨ad, u, rfl, hu, hc⟩ := h.at_ hlt
      simp only [Is, List.getElem?_map, Option.map_eq_some_iff] at hu
      obtain ⟨x, hx, rfl⟩ := hu
      have hd : ns.drop k = x :: ns.drop (k + 1) := by
        obtain ⟨hk', rfl⟩ := List.getElem?_eq_some_iff.1 hx
        exact List.drop_eq_getElem_cons hk'
      rw [hd] at HE
      clear hx hd
      by_cases h0 : x = 0
      · subst h0
        have HE2 : Hid (orF (ns.drop (k + 1)) = orF ns) := HE.out
        go_wp2_with fail
        go_roundw
        case rel => exact ⟨k + 1, by omega, by go_num, HE2.out, by first | rfl | trivial⟩
        case measure => simp [RowKit.intOf]; omega
      · have h0b : (x != 0) = true := by simpa using h0
        have HE2 : Hid (x = orF ns) := by
          have := HE.out
          rw [orF, if_neg h0] at this
          exact this
        clear h0
        go_wp2_with fail
        go_ret
        first | exact ⟨by rw [← HE2.out]; rfl, rfl⟩ | exact ⟨HE2.out, trivial⟩ | exact ⟨HE2.out, rfl⟩
    · obtain rfl : k = ns.length := by omega
      have HE2 : Hid (0 = orF ns) := by
        have := HE.out
        rw [List.drop_length] at this
        exact this
      go_wp2_with fail
      go_ret
      first | exact ⟨by rw [← HE2.out]; rfl, rfl⟩ | exact ⟨HE2.out, trivial⟩ | exact ⟨HE2.out, rfl⟩

theorem src4 (w : World) (a b c d : Int) (t : TypeId) : Src ((w.alloc (.cells #[.int .i64 a, .int .i64 b, .int .i64 c, .int .i64 d] t)).drew) 1 (some ⟨w.heap.size, 0, none⟩) [a, b, c, d].length (Is [a, b, c, d]) :=
  Src.block (w := (w.alloc (.cells #[.int .i64 a, .int .i64 b, .int .i64 c, .int .i64 d] t)).drew) (heap_alloc_new w _) 1 4 rfl
set_option maxRecDepth 100000 in
set_option maxHeartbeats 4000000 in
theorem order_watch (w : World) (x y : WatT) :
    Calls Tryz.prog 97 #[watV x, watV y] w fun e w' => e = .returned (.int .i64 (ordF x y)) ∧ Keeps (fun _ => False) w w' := by
  have HO : Hid (ordF x y = orF [cmpI x.session y.session, cmpS x.path y.path, cmpI (oneF x.kids) (oneF y.kids), cmpI (oneF x.once) (oneF y.once)]) := rfl
  obtain ⟨s1, p1, k1, o1⟩ := x
  obtain ⟨s2, p2, k2, o2⟩ := y
  simp only at HO ⊢
  generalize ordF _ _ = R at *
  go_enter Tryz.func97, Tryz.ntmps97
  go_upto_region 2 with fail
  have S0 := ((Sat.start w).box #[.int .i64 s1, .string (S p1), .bool k1, .bool o1] 126 rfl).box #[.int .i64 s2, .string (S p2), .bool k2, .bool o2] 126 (b := w.heap.size + 1) (by simp)
  generalize (w.alloc (.cells #[.int .i64 s1, .string (S p1), .bool k1, .bool o1] 126)).alloc (.cells #[.int .i64 s2, .string (S p2), .bool k2, .bool o2] 126) = w2 at *
  obtain ⟨b1, hb1⟩ : ∃ b, w.heap.size = b := ⟨_, rfl⟩
  rw [hb1] at S0 ⊢
  clear hb1
  have x00 : w2.cell? ⟨b1, 0, none⟩ = some (.int .i64 s1) := S0.cell_of (t := 126) (cs := #[.int .i64 s1, .string (S p1), .bool k1, .bool o1]) (by simp) 0 _ rfl
  have x01 : w2.cell? ⟨b1, 1, none⟩ = some (.string (S p1)) := S0.cell_of (t := 126) (cs := #[.int .i64 s1, .string (S p1), .bool k1, .bool o1]) (by simp) 1 _ rfl
  have x02 : w2.cell? ⟨b1, 2, none⟩ = some (.bool k1) := S0.cell_of (t := 126) (cs := #[.int .i64 s1, .string (S p1), .bool k1, .bool o1]) (by simp) 2 _ rfl
  have x03 : w2.cell? ⟨b1, 3, none⟩ = some (.bool o1) := S0.cell_of (t := 126) (cs := #[.int .i64 s1, .string (S p1), .bool k1, .bool o1]) (by simp) 3 _ rfl
  have x10 : w2.cell? ⟨b1 + 1, 0, none⟩ = some (.int .i64 s2) := S0.cell_of (t := 126) (cs := #[.int .i64 s2, .string (S p2), .bool k2, .bool o2]) (by simp) 0 _ rfl
  have x11 : w2.cell? ⟨b1 + 1, 1, none⟩ = some (.string (S p2)) := S0.cell_of (t := 126) (cs := #[.int .i64 s2, .string (S p2), .bool k2, .bool o2]) (by simp) 1 _ rfl
  have x12 : w2.cell? ⟨b1 + 1, 2, none⟩ = some (.bool k2) := S0.cell_of (t := 126) (cs := #[.int .i64 s2, .string (S p2), .bool k2, .bool o2]) (by simp) 2 _ rfl
  have x13 : w2.cell? ⟨b1 + 1, 3, none⟩ = some (.bool o2) := S0.cell_of (t := 126) (cs := #[.int .i64 s2, .string (S p2), .bool k2, .bool o2]) (by simp) 3 _ rfl
  have HK := hide (S0.p2.keep_all)
  go_region_held3 (fun w' => w'.cell? ⟨b1, 0, none⟩ = some (.int .i64 s1) ∧ w'.cell? ⟨b1, 1, none⟩ = some (.string (S p1)) ∧ w'.cell? ⟨b1, 2, none⟩ = some (.bool k1) ∧ w'.cell? ⟨b1, 3, none⟩ = some (.bool o1) ∧ w'.cell? ⟨b1 + 1, 0, none⟩ = some (.int .i64 s2) ∧ w'.cell? ⟨b1 + 1, 1, none⟩ = some (.string (S p2)) ∧ w'.cell? ⟨b1 + 1, 2, none⟩ = some (.bool k2) ∧ w'.cell? ⟨b1 + 1, 3, none⟩ = some (.bool o2)) (go_keep) (first
    | (go_at_call 116; refine (cmp_int _ _ _).mono ?_; rintro e w3 ⟨rfl, rfl⟩)
    | (go_at_call 117; refine (cmp_str _ _ _).mono ?_; rintro e w3 ⟨rfl, rfl⟩)
    | (go_at_call 114; refine (one_watch _ _).mono ?_; rintro e w3 ⟨rfl, rfl⟩)
    | (go_at_call 115; refine (or_cmp _ _ [cmpI s1 s2, cmpS p1 p2, cmpI (oneF k1) (oneF k2), cmpI (oneF o1) (oneF o2)] 4 (src4 _ _ _ _ _ _) (Nat.le_of_ble_eq_true rfl)).mono ?_; rintro e w3 ⟨rfl, rfl⟩))
  all_goals
    go_wp2_with fail
    go_ret
    refine ⟨?_, ?_⟩
    · rw [HO.out]; rfl
    · repeat (first | exact HK.out | refine Keeps.alloc ?_ _ | refine Keeps.drew ?_ | refine Keeps.drewN ?_ _)
end

section
set_option linter.unusedVariables false
set_option linter.unusedSimpArgs false
open Go.RowKit

/-- an event: session, number, path, what, when -/
structure EvT where
  session : Int
  no : Int
  path : List UInt8
  what : Int
  when_ : Int
deriving DecidableEq
def evC (e : EvT) : List Value := [.int .i64 e.session, .int .i64 e.no, .string (S e.path), .int .i64 e.what, .int .i64 e.when_]
abbrev evV (e : EvT) : Value := .agg #[.int .i64 e.session, .int .i64 e.no, .string (S e.path), .int .i64 e.what, .int .i64 e.when_]
theorem watC_one (a : WatT) : ∀ u ∈ watC a, u.oneCell' = true := by
  intro u hu
  simp only [watC, List.mem_cons, List.not_mem_nil, or_false] at hu
  rcases hu with rfl | rfl | rfl | rfl <;> rfl
theorem evC_one (a : EvT) : ∀ u ∈ evC a, u.oneCell' = true := by
  intro u hu
  simp only [evC, List.mem_cons, List.not_mem_nil, or_false] at hu
  rcases hu with rfl | rfl | rfl | rfl | rfl <;> rfl
theorem slW : Sl Tryz.prog 116 126 4 32 (.agg #[.int .i64 0, .string ⟨#[]⟩, .bool false, .bool false]) := Sl.mk' Tryz.underlying116 (by kernel_rfl) rfl (by decide)
theorem slV : Sl Tryz.prog 47 95 5 48 (.agg #[.int .i64 0, .int .i64 0, .string ⟨#[]⟩, .int .i64 0, .int .i64 0]) := Sl.mk' Tryz.underlying47 (by kernel_rfl) rfl (by decide)

/-- what is asked of the closure: at the k-th element it hands back p of it, and turns I k into I (k + 1), whatever else there is -/
def Dels {α : Type} (P : Program) (gF : Nat) (lb : Array Value) (g : World) (enc : α → Value) (xs : List α) (p : α → Bool) (I : Nat → List Asn) : Prop :=
  ∀ (k : Nat) (x : α) (A : Asn) (w : World), xs[k]? = some x → Sat g w (A :: I k) → Calls P gF (#[enc x] ++ lb) w fun e w' => e = .returned (.bool (p x)) ∧ Sat g w' (A :: I (k + 1))

theorem filt_step {α : Type} {xs : List α} {p : α → Bool} {k : Nat} {x : α} (h : xs[k]? = some x) : (xs.take (k + 1)).filter (fun x => !p x) = (xs.take k).filter (fun x => !p x) ++ if p x = true then [] else [x] := by
  obtain ⟨hk, rfl⟩ := List.getElem?_eq_some_iff.1 h
  rw [List.take_succ_eq_append_getElem hk, List.filter_append]
  congr 1
  cases hp : p xs[k] <;> simp [hp]
theorem filt_none {α : Type} {xs : List α} {p : α → Bool} (h : ∀ x ∈ xs, p x = false) : xs.filter (fun x => !p x) = xs := by
  rw [List.filter_eq_self]
  intro x hx
  simp [h x hx]
theorem filt_hit {α : Type} {xs : List α} {p : α → Bool} {k : Nat} {x : α} (h : xs[k]? = some x) (hp : p x = true) : ((xs).filter (fun x => !p x)).length < xs.length := by
  have hm := List.mem_of_getElem? h
  have h1 := List.length_filter_le (fun x => !p x) xs
  rcases Nat.lt_or_ge ((xs).filter (fun x => !p x)).length xs.length with h2 | h2
  · exact h2
  · have := List.filter_eq_self.1 (List.Sublist.eq_of_length (List.filter_sublist (l := xs) (p := fun x => !p x)) (by omega)) x hm
    simp [hp] at this
theorem lay_next {l : List Value} {o : Nat} {cs : List Value} (h : o + cs.length ≤ l.length) : (lay l o cs).take (o + cs.length) = l.take o ++ cs := by
  unfold lay
  rw [List.take_append, List.take_of_length_le (by simp; omega)]
  simp
  omega
theorem lay_behind {l : List Value} {o m : Nat} {cs : List Value} (h : o + cs.length ≤ m) (hm : m ≤ l.length) : (lay l o cs).drop m = l.drop m := by
  unfold lay
  rw [List.drop_append, List.drop_eq_nil_of_le (by simp; omega), List.nil_append, List.drop_drop]
  congr 1
  simp
  omega
theorem lay_ahead {l : List Value} {o m : Nat} {cs : List Value} (h : m ≤ o) (ho : o ≤ l.length) : (lay l o cs).take m = l.take m := by
  unfold lay
  rw [List.append_assoc, List.take_append_of_le_length (by simp; omega), List.take_take, Nat.min_eq_left h]

/-! ### watches -/
theorem wat_at {w : World} {A : Option Addr} {xs : List WatT} (h : Src w 4 A xs.length (xs.flatMap watC)) {k : Nat} (hk : k < xs.length) :
    ∃ ad x, A = some ad ∧ xs[k]? = some x ∧ w.cell? (ad.add (k * 4)) = some (.int .i64 x.session) ∧ w.cell? ⟨(ad.add (k * 4)).block, (ad.add (k * 4)).off + 1, none⟩ = some (.string (Go.Proofs.YtanlobdidjednaaGreatDoor.S x.path)) ∧ w.cell? ⟨(ad.add (k * 4)).block, (ad.add (k * 4)).off + 2, none⟩ = some (.bool x.kids) ∧ w.cell? ⟨(ad.add (k * 4)).block, (ad.add (k * 4)).off + 3, none⟩ = some (.bool x.once) := by
  obtain ⟨ad, e, hc⟩ := h.2 (by omega)
  have ha := List.getElem?_eq_getElem hk
  have hf := flatK_at (f := watC) (n := 4) (fun _ => rfl) xs k _ ha
  refine ⟨ad, xs[k], e, ha, hc _ _ (hf 0 _ rfl), ?_, ?_, ?_⟩
  · rw [← add_succ, add_add]; exact hc _ _ (hf 1 _ rfl)
  · rw [← add_succ, add_add]; exact hc _ _ (hf 2 _ rfl)
  · rw [← add_succ, add_add]; exact hc _ _ (hf 3 _ rfl)
section
variable {g w : World} {xs : List WatT} {p : WatT → Bool} {I : Nat → List Asn} {gF : Nat} {lb : Array Value}
set_option maxRecDepth 100000 in
theorem idx_wat {A : Option Addr} {c : Nat} (hD : Dels Tryz.prog gF lb g watV xs p I) (eg : ∀ args w, (callFunc gF args).run Tryz.prog w = .ok (.enter gF args) w) (S : Sat g w (rowA 126 4 (.slice A xs.length c) xs.length (xs.flatMap watC) :: I 0)) (hl : xs.length ≤ 1000000) :
    Calls Tryz.prog 107 #[.slice A xs.length c, .func (.func gF) #[] lb] w fun e w' =>
      ∃ r : Int, e = .returned (.int .i64 r) ∧ ((∃ (k : Nat) (x : WatT), r = k ∧ xs[k]? = some x ∧ p x = true ∧ (∀ q ∈ xs.take k, p q = false) ∧ Sat g w' (rowA 126 4 (.slice A xs.length c) xs.length (xs.flatMap watC) :: I (k + 1))) ∨
      (r = -1 ∧ (∀ q ∈ xs, p q = false) ∧ Sat g w' (rowA 126 4 (.slice A xs.length c) xs.length (xs.flatMap watC) :: I xs.length))) := by
  have HD := hide hD
  clear hD
  go_enter Tryz.func107, Tryz.ntmps107
  go_wp2_with fail
  go_loopw [5, 8] (fun _ i wr => ∃ k : Nat, k ≤ xs.length ∧ i = .int .i64 k ∧ (∀ q ∈ xs.take k, p q = false) ∧ Sat g wr (rowA 126 4 (.slice A xs.length c) xs.length (xs.flatMap watC) :: I k)) (fun _ i _ => xs.length - (RowKit.intOf i).toNat)
  case atStart => exact ⟨0, by omega, rfl, by simp, S⟩
  case round =>
    obtain ⟨k, hk, rfl, hall, S1⟩ := hrel
    have HA := hide hall
    clear hall S
    have hk0 : (0 : Int) ≤ k := by omega
    by_cases hlt : k < xs.length
    · have hk1 : (k : Int) < xs.length := by omega
      obtain ⟨ad, x, rfl, hx, d0, d1, d2, d3⟩ := wat_at S1.srcR hlt
      have hcall := HD.out k x _ wr hx S1
      have HX := hide hx
      clear hx
      obtain ⟨pb, hpb⟩ : ∃ b, p x = b := ⟨_, rfl⟩
      rw [hpb] at hcall
      have HP := hide hpb
      clear hpb
      obtain ⟨f0, f1, f2, f3⟩ := x
      simp only at d0 d1 d2 d3
      cases pb
      · go_wp2_with (go_at_fn gF; refine hcall.mono ?_; rintro e w2 ⟨rfl, S2⟩)
        go_roundw
        case rel =>
          refine ⟨k + 1, by omega, by go_num, ?_, S2⟩
          obtain ⟨hk', e1⟩ := List.getElem?_eq_some_iff.1 HX.out
          rw [List.take_succ_eq_append_getElem hk', e1]
          intro q hq
          rcases List.mem_append.1 hq with hq | hq
          · exact HA.out q hq
          · simp at hq; subst hq; exact HP.out
        case measure => simp [RowKit.intOf]; omega
      · go_wp2_with (go_at_fn gF; refine hcall.mono ?_; rintro e w2 ⟨rfl, S2⟩)
        go_ret
        exact ⟨_, rfl, .inl ⟨k, _, rfl, HX.out, HP.out, HA.out, S2⟩⟩
    · obtain rfl : k = xs.length := by omega
      go_wp2_with fail
      go_ret
      refine ⟨_, rfl, .inr ⟨rfl, ?_, S1⟩⟩
      have := HA.out
      rw [List.take_length] at this
      exact this

set_option maxRecDepth 100000 in
set_option maxHeartbeats 4000000 in
theorem del_wat {v : Value} (hD : Dels Tryz.prog gF lb g watV xs p I) (eg : ∀ args w, (callFunc gF args).run Tryz.prog w = .ok (.enter gF args) w) (S : Sat g w (rowA 126 4 v xs.length (xs.flatMap watC) :: I 0)) (hl : xs.length ≤ 1000000) :
    Calls Tryz.prog 89 #[v, .func (.func gF) #[] lb] w fun e w' =>
      ∃ v', e = .returned v' ∧ Sat g w' (rowA 126 4 v' (xs.filter fun x => !p x).length ((xs.filter fun x => !p x).flatMap watC) :: I xs.length) := by
  obtain ⟨A, c, rfl, -⟩ := S.row.form
  have HD := hide hD
  go_enter Tryz.func89, Tryz.ntmps89
  go_wp2_with fail
  refine (idx_wat hD eg S hl).mono ?_
  clear hD
  rintro e w1 ⟨r, rfl, hr⟩
  rcases hr with ⟨k0, x0, rfl, hx0, hp0, ha0, S1⟩ | ⟨rfl, ha, S1⟩
  · have hk0 := (List.getElem?_eq_some_iff.1 hx0).1
    cases A with
    | none =>
      exfalso
      rcases S1.row.2 with h | h
      · omega
      · obtain ⟨_, _, _, h, _⟩ := h
        cases h
    | some ad =>
    obtain ⟨b, cur0, had, q1, q2, q3, q4, S2⟩ := S1.rowOpen
    have HAD := hide had
    have hi0 : ((k0 : Int) == -1) = false := by first | (simp; done) | (simp; omega)
    have hi1 : ¬ ((k0 : Int) = -1) := by omega
    have hf0 : (xs.take (k0 + 1)).filter (fun x => !p x) = xs.take k0 := by
      rw [filt_step hx0, filt_none ha0, hp0]; simp
    have HN := hide (filt_hit hx0 hp0)
    have HF0 := hide hf0
    clear hx0 hp0 ha0 hf0
    clear had S1 S
    have HQ4 := hide q4
    have hxl : (xs.flatMap watC).length = xs.length * 4 := flatK_len (f := watC) (n := 4) (fun _ => rfl) xs
    clear q4
    dsimp only
    go_wp2_with fail
    go_loopw [5, 6] (fun i j wr => ∃ (a m : Nat) (cur : List Value), m ≤ xs.length ∧ a = ((xs.take m).filter fun x => !p x).length ∧ a < m ∧ i = .int .i64 a ∧ j = .int .i64 m ∧ cur.length = c * 4 ∧ cur.take (a * 4) = ((xs.take m).filter fun x => !p x).flatMap watC ∧ cur.drop (m * 4) = cur0.drop (m * 4) ∧ Sat g wr (cellsA b 126 cur.toArray :: I m)) (fun _ j _ => xs.length - (RowKit.intOf j).toNat)
    case atStart =>
      refine ⟨k0, k0 + 1, cur0, by omega, ?_, by omega, rfl, by go_num, q3, ?_, rfl, S2⟩
      · rw [HF0.out, List.length_take]; omega
      · rw [HF0.out, ← flatK_take (f := watC) (n := 4) (fun _ => rfl), ← HQ4.out, List.take_take, Nat.min_eq_left (Nat.mul_le_mul_right _ (by omega))]
    case round =>
      obtain ⟨a, m, cur, hm, ha, ham, rfl, rfl, r1, r2, r3, S3⟩ := hrel
      have HR2 := hide r2
      have HR3 := hide r3
      have HFA := hide ha
      clear r2 r3 ha S2
      by_cases hlt : m < xs.length
      · obtain ⟨x, hx⟩ : ∃ x, xs[m]? = some x := ⟨_, List.getElem?_eq_getElem hlt⟩
        have hcell : ∀ (j : Nat) (u : Value), (watC x)[j]? = some u → wr.cell? ⟨b, m * 4 + j, none⟩ = some u := fun j u hu => by
          refine S3.cellL _ _ ?_
          have h1 := flatK_at (f := watC) (n := 4) (fun _ => rfl) xs m _ hx j u hu
          have h2 : (cur.drop (m * 4))[j]? = (cur0.drop (m * 4))[j]? := by rw [HR3.out]
          rw [List.getElem?_drop, List.getElem?_drop] at h2
          rw [h2]
          rw [← HQ4.out, List.getElem?_take] at h1
          split at h1
          · exact h1
          · cases h1
        have hz : ∀ (j : Nat) (u : Value), (watC x)[j]? = some u → wr.cell? ⟨(ad.add (m * 4)).block, (ad.add (m * 4)).off + j, none⟩ = some u := fun j u hu => by
          have hc := hcell j u hu
          rw [HAD.out, addr_blk]
          exact hc
        have d0 : wr.cell? (ad.add (m * 4)) = some (.int .i64 x.session) := by
          have hc := hcell 0 _ rfl
          rw [HAD.out, addr_blk]
          exact hc
        have d1 : wr.cell? ⟨(ad.add (m * 4)).block, (ad.add (m * 4)).off + 1, none⟩ = some (.string (Go.Proofs.YtanlobdidjednaaGreatDoor.S x.path)) := hz 1 _ rfl
        have d2 : wr.cell? ⟨(ad.add (m * 4)).block, (ad.add (m * 4)).off + 2, none⟩ = some (.bool x.kids) := hz 2 _ rfl
        have d3 : wr.cell? ⟨(ad.add (m * 4)).block, (ad.add (m * 4)).off + 3, none⟩ = some (.bool x.once) := hz 3 _ rfl
        clear hcell hz
        have hcl : ∀ W, Sat g W (star (cellsA wr.heap.size 126 (watC x).toArray) (cellsA b 126 cur.toArray) :: I m) → _ := fun W S' => HD.out m x (star (cellsA wr.heap.size 126 (watC x).toArray) (cellsA b 126 cur.toArray)) W hx S'
        have HX := hide hx
        clear hx
        have hst := filt_step (p := p) HX.out
        have HST := hide hst
        obtain ⟨pb, hpb⟩ : ∃ b, p x = b := ⟨_, rfl⟩
        rw [hpb] at hcl HST
        clear hst hpb
        have HCL := hide hcl
        clear hcl
        obtain ⟨f0, f1, f2, f3⟩ := x
        simp only at d0 d1 d2 d3 HCL
        have S4 := (S3.box #[.int .i64 f0, .string (Go.Proofs.YtanlobdidjednaaGreatDoor.S f1), .bool f2, .bool f3] 126 rfl).join
        have hm0 : (0 : Int) ≤ m := by omega
        have hm1 : (m : Int) < xs.length := by omega
        have ha0 : (0 : Int) ≤ a := by omega
        have ha1 : (a : Int) < xs.length := by omega
        have hcall := HCL.out _ S4
        have hlp : b < wr.heap.size := heap_lt S3.cells_get
        cases pb
        · go_wp2_with (first
            | (go_at_fn gF; refine hcall.mono ?_; rintro e w5 ⟨rfl, S5⟩; have S6 := S5.split; have y0 := S6.p1; have e0 : w5.cell? ⟨wr.heap.size, 0, none⟩ = some (.int .i64 f0) := S6.cell 0 _ rfl; have e1 : w5.cell? ⟨wr.heap.size, 1, none⟩ = some (.string (Go.Proofs.YtanlobdidjednaaGreatDoor.S f1)) := S6.cell 1 _ rfl; have e2 : w5.cell? ⟨wr.heap.size, 2, none⟩ = some (.bool f2) := S6.cell 2 _ rfl; have e3 : w5.cell? ⟨wr.heap.size, 3, none⟩ = some (.bool f3) := S6.cell 3 _ rfl)
            | ((show Go.wpList _ _ _ (Oper.mk none (Op.store _ _ _) _ _ _ _ :: _) _ _); refine wpList_slay rfl _ (.tmp 33) (.tmp 32) rfl (b := b) (off := a * 4) y0 [.int .i64 f0, .string (Go.Proofs.YtanlobdidjednaaGreatDoor.S f1), .bool f2, .bool f3] (by rw [HAD.out, addr_blk]) rfl rfl (by kernel_rfl) (by simp [r1]; omega) (by simp [Value.oneCell']) ?_; intro w7 S7))
          go_roundw
          case rel =>
            have hst2 := HST.out
            refine ⟨a + 1, m + 1, _, by omega, ?_, by omega, by go_num, by go_num, ?_, ?_, ?_, S7.p1.drop⟩
            · rw [hst2, List.length_append, ← HFA.out]; simp
            · rw [lay_length _ _ _ (by simp [r1]; omega)]; exact r1
            · rw [hst2, List.flatMap_append, ← HR2.out, Nat.succ_mul]
              exact (lay_next (l := cur) (o := a * 4) (cs := [.int .i64 f0, .string (Go.Proofs.YtanlobdidjednaaGreatDoor.S f1), .bool f2, .bool f3]) (by simp [r1]; omega)).trans rfl
            · rw [lay_behind (by simp; omega) (by omega), Nat.succ_mul, ← List.drop_drop, HR3.out, List.drop_drop]
          case measure => simp [RowKit.intOf]; omega
        · go_wp2_with (go_at_fn gF; refine hcall.mono ?_; rintro e w5 ⟨rfl, S5⟩; have S6 := S5.split)
          go_roundw
          case rel =>
            have hst2 := HST.out
            simp only [if_true, List.append_nil] at hst2
            refine ⟨a, m + 1, cur, by omega, ?_, by omega, rfl, by go_num, r1, ?_, ?_, S6.drop⟩
            · rw [hst2]; exact HFA.out
            · rw [hst2]; exact HR2.out
            · rw [Nat.succ_mul, ← List.drop_drop, HR3.out, List.drop_drop]
          case measure => simp [RowKit.intOf]; omega
      · obtain rfl : m = xs.length := by omega
        have ht := HR2.out
        rw [List.take_length] at ht
        have HT := hide ht
        have hfa := HFA.out
        rw [List.take_length] at hfa
        have HFB := hide hfa
        clear ht hfa
        have hN := HN.out
        rw [← HFB.out] at hN
        have hb1 : (a : Int) ≤ (c : Int) := by omega
        have hb2 : ¬ (c = a) := by omega
        have hb3 : ¬ (c - a = 0) := by omega
        have hb4 : (0 : Int) ≤ (a : Int) := by omega
        have hb5 : (a : Int) ≤ (xs.length : Int) := by omega
        have hb6 : (xs.length : Int) ≤ (c : Int) := by omega
        go_wp2_with ((show Go.wpList _ _ _ (Oper.mk none (Op.call _) _ _ _ _ :: _) _ _); refine wpList_sclear slW (by simp [Value.cells, Value.oneCell']) rfl _ rfl S3 (off := a * 4) (by rw [HAD.out, addr_blk]) rfl (by omega) (by rw [r1, ← Nat.add_mul]; exact Nat.mul_le_mul_right _ (by omega)) ?_; intro w5 zs hzs S5)
        go_ret
        refine ⟨_, rfl, ?_⟩
        rw [← HFB.out, HAD.out]
        refine S5.rowShut (by omega) q2 ?_ ?_
        · rw [lay_length _ _ _ (by rw [hzs, r1, ← Nat.add_mul]; exact Nat.mul_le_mul_right _ (by omega))]; exact r1
        · rw [lay_ahead (Nat.le_refl _) (by rw [r1]; exact Nat.mul_le_mul_right _ (by omega))]
          exact HT.out
  · have HA := hide (filt_none ha)
    clear ha
    go_wp2_with fail
    go_ret
    refine ⟨_, rfl, ?_⟩
    rw [HA.out]
    exact S1
end

/-! ### events -/
theorem ev_at {w : World} {A : Option Addr} {xs : List EvT} (h : Src w 5 A xs.length (xs.flatMap evC)) {k : Nat} (hk : k < xs.length) :
    ∃ ad x, A = some ad ∧ xs[k]? = some x ∧ w.cell? (ad.add (k * 5)) = some (.int .i64 x.session) ∧ w.cell? ⟨(ad.add (k * 5)).block, (ad.add (k * 5)).off + 1, none⟩ = some (.int .i64 x.no) ∧ w.cell? ⟨(ad.add (k * 5)).block, (ad.add (k * 5)).off + 2, none⟩ = some (.string (Go.Proofs.YtanlobdidjednaaGreatDoor.S x.path)) ∧ w.cell? ⟨(ad.add (k * 5)).block, (ad.add (k * 5)).off + 3, none⟩ = some (.int .i64 x.what) ∧ w.cell? ⟨(ad.add (k * 5)).block, (ad.add (k * 5)).off + 4, none⟩ = some (.int .i64 x.when_) := by
  obtain ⟨ad, e, hc⟩ := h.2 (by omega)
  have ha := List.getElem?_eq_getElem hk
  have hf := flatK_at (f := evC) (n := 5) (fun _ => rfl) xs k _ ha
  refine ⟨ad, xs[k], e, ha, hc _ _ (hf 0 _ rfl), ?_, ?_, ?_, ?_⟩
  · rw [← add_succ, add_add]; exact hc _ _ (hf 1 _ rfl)
  · rw [← add_succ, add_add]; exact hc _ _ (hf 2 _ rfl)
  · rw [← add_succ, add_add]; exact hc _ _ (hf 3 _ rfl)
  · rw [← add_succ, add_add]; exact hc _ _ (hf 4 _ rfl)
section
variable {g w : World} {xs : List EvT} {p : EvT → Bool} {I : Nat → List Asn} {gF : Nat} {lb : Array Value}
set_option maxRecDepth 100000 in
theorem idx_ev {A : Option Addr} {c : Nat} (hD : Dels Tryz.prog gF lb g evV xs p I) (eg : ∀ args w, (callFunc gF args).run Tryz.prog w = .ok (.enter gF args) w) (S : Sat g w (rowA 95 5 (.slice A xs.length c) xs.length (xs.flatMap evC) :: I 0)) (hl : xs.length ≤ 1000000) :
    Calls Tryz.prog 84 #[.slice A xs.length c, .func (.func gF) #[] lb] w fun e w' =>
      ∃ r : Int, e = .returned (.int .i64 r) ∧ ((∃ (k : Nat) (x : EvT), r = k ∧ xs[k]? = some x ∧ p x = true ∧ (∀ q ∈ xs.take k, p q = false) ∧ Sat g w' (rowA 95 5 (.slice A xs.length c) xs.length (xs.flatMap evC) :: I (k + 1))) ∨
      (r = -1 ∧ (∀ q ∈ xs, p q = false) ∧ Sat g w' (rowA 95 5 (.slice A xs.length c) xs.length (xs.flatMap evC) :: I xs.length))) := by
  have HD := hide hD
  clear hD
  go_enter Tryz.func84, Tryz.ntmps84
  go_wp2_with fail
  go_loopw [5, 8] (fun _ i wr => ∃ k : Nat, k ≤ xs.length ∧ i = .int .i64 k ∧ (∀ q ∈ xs.take k, p q = false) ∧ Sat g wr (rowA 95 5 (.slice A xs.length c) xs.length (xs.flatMap evC) :: I k)) (fun _ i _ => xs.length - (RowKit.intOf i).toNat)
  case atStart => exact ⟨0, by omega, rfl, by simp, S⟩
  case round =>
    obtain ⟨k, hk, rfl, hall, S1⟩ := hrel
    have HA := hide hall
    clear hall S
    have hk0 : (0 : Int) ≤ k := by omega
    by_cases hlt : k < xs.length
    · have hk1 : (k : Int) < xs.length := by omega
      obtain ⟨ad, x, rfl, hx, d0, d1, d2, d3, d4⟩ := ev_at S1.srcR hlt
      have hcall := HD.out k x _ wr hx S1
      have HX := hide hx
      clear hx
      obtain ⟨pb, hpb⟩ : ∃ b, p x = b := ⟨_, rfl⟩
      rw [hpb] at hcall
      have HP := hide hpb
      clear hpb
      obtain ⟨f0, f1, f2, f3, f4⟩ := x
      simp only at d0 d1 d2 d3 d4
      cases pb
      · go_wp2_with (go_at_fn gF; refine hcall.mono ?_; rintro e w2 ⟨rfl, S2⟩)
        go_roundw
        case rel =>
          refine ⟨k + 1, by omega, by go_num, ?_, S2⟩
          obtain ⟨hk', e1⟩ := List.getElem?_eq_some_iff.1 HX.out
          rw [List.take_succ_eq_append_getElem hk', e1]
          intro q hq
          rcases List.mem_append.1 hq with hq | hq
          · exact HA.out q hq
          · simp at hq; subst hq; exact HP.out
        case measure => simp [RowKit.intOf]; omega
      · go_wp2_with (go_at_fn gF; refine hcall.mono ?_; rintro e w2 ⟨rfl, S2⟩)
        go_ret
        exact ⟨_, rfl, .inl ⟨k, _, rfl, HX.out, HP.out, HA.out, S2⟩⟩
    · obtain rfl : k = xs.length := by omega
      go_wp2_with fail
      go_ret
      refine ⟨_, rfl, .inr ⟨rfl, ?_, S1⟩⟩
      have := HA.out
      rw [List.take_length] at this
      exact this

set_option maxRecDepth 100000 in
set_option maxHeartbeats 4000000 in
theorem del_ev {v : Value} (hD : Dels Tryz.prog gF lb g evV xs p I) (eg : ∀ args w, (callFunc gF args).run Tryz.prog w = .ok (.enter gF args) w) (S : Sat g w (rowA 95 5 v xs.length (xs.flatMap evC) :: I 0)) (hl : xs.length ≤ 1000000) :
    Calls Tryz.prog 73 #[v, .func (.func gF) #[] lb] w fun e w' =>
      ∃ v', e = .returned v' ∧ Sat g w' (rowA 95 5 v' (xs.filter fun x => !p x).length ((xs.filter fun x => !p x).flatMap evC) :: I xs.length) := by
  obtain ⟨A, c, rfl, -⟩ := S.row.form
  have HD := hide hD
  go_enter Tryz.func73, Tryz.ntmps73
  go_wp2_with fail
  refine (idx_ev hD eg S hl).mono ?_
  clear hD
  rintro e w1 ⟨r, rfl, hr⟩
  rcases hr with ⟨k0, x0, rfl, hx0, hp0, ha0, S1⟩ | ⟨rfl, ha, S1⟩
  · have hk0 := (List.getElem?_eq_some_iff.1 hx0).1
    cases A with
    | none =>
      exfalso
      rcases S1.row.2 with h | h
      · omega
      · obtain ⟨_, _, _, h, _⟩ := h
        cases h
    | some ad =>
    obtain ⟨b, cur0, had, q1, q2, q3, q4, S2⟩ := S1.rowOpen
    have HAD := hide had
    have hi0 : ((k0 : Int) == -1) = false := by first | (simp; done) | (simp; omega)
    have hi1 : ¬ ((k0 : Int) = -1) := by omega
    have hf0 : (xs.take (k0 + 1)).filter (fun x => !p x) = xs.take k0 := by
      rw [filt_step hx0, filt_none ha0, hp0]; simp
    have HN := hide (filt_hit hx0 hp0)
    have HF0 := hide hf0
    clear hx0 hp0 ha0 hf0
    clear had S1 S
    have HQ4 := hide q4
    have hxl : (xs.flatMap evC).length = xs.length * 5 := flatK_len (f := evC) (n := 5) (fun _ => rfl) xs
    clear q4
    dsimp only
    go_wp2_with fail
    go_loopw [5, 6] (fun i j wr => ∃ (a m : Nat) (cur : List Value), m ≤ xs.length ∧ a = ((xs.take m).filter fun x => !p x).length ∧ a < m ∧ i = .int .i64 a ∧ j = .int .i64 m ∧ cur.length = c * 5 ∧ cur.take (a * 5) = ((xs.take m).filter fun x => !p x).flatMap evC ∧ cur.drop (m * 5) = cur0.drop (m * 5) ∧ Sat g wr (cellsA b 95 cur.toArray :: I m)) (fun _ j _ => xs.length - (RowKit.intOf j).toNat)
    case atStart =>
      refine ⟨k0, k0 + 1, cur0, by omega, ?_, by omega, rfl, by go_num, q3, ?_, rfl, S2⟩
      · rw [HF0.out, List.length_take]; omega
      · rw [HF0.out, ← flatK_take (f := evC) (n := 5) (fun _ => rfl), ← HQ4.out, List.take_take, Nat.min_eq_left (Nat.mul_le_mul_right _ (by omega))]
    case round =>
      obtain ⟨a, m, cur, hm, ha, ham, rfl, rfl, r1, r2, r3, S3⟩ := hrel
      have HR2 := hide r2
      have HR3 := hide r3
      have HFA := hide ha
      clear r2 r3 ha S2
      by_cases hlt : m < xs.length
      · obtain ⟨x, hx⟩ : ∃ x, xs[m]? = some x := ⟨_, List.getElem?_eq_getElem hlt⟩
        have hcell : ∀ (j : Nat) (u : Value), (evC x)[j]? = some u → wr.cell? ⟨b, m * 5 + j, none⟩ = some u := fun j u hu => by
          refine S3.cellL _ _ ?_
          have h1 := flatK_at (f := evC) (n := 5) (fun _ => rfl) xs m _ hx j u hu
          have h2 : (cur.drop (m * 5))[j]? = (cur0.drop (m * 5))[j]? := by rw [HR3.out]
          rw [List.getElem?_drop, List.getElem?_drop] at h2
          rw [h2]
          rw [← HQ4.out, List.getElem?_take] at h1
          split at h1
          · exact h1
          · cases h1
        have hz : ∀ (j : Nat) (u : Value), (evC x)[j]? = some u → wr.cell? ⟨(ad.add (m * 5)).block, (ad.add (m * 5)).off + j, none⟩ = some u := fun j u hu => by
          have hc := hcell j u hu
          rw [HAD.out, addr_blk]
          exact hc
        have d0 : wr.cell? (ad.add (m * 5)) = some (.int .i64 x.session) := by
          have hc := hcell 0 _ rfl
          rw [HAD.out, addr_blk]
          exact hc
        have d1 : wr.cell? ⟨(ad.add (m * 5)).block, (ad.add (m * 5)).off + 1, none⟩ = some (.int .i64 x.no) := hz 1 _ rfl
        have d2 : wr.cell? ⟨(ad.add (m * 5)).block, (ad.add (m * 5)).off + 2, none⟩ = some (.string (Go.Proofs.YtanlobdidjednaaGreatDoor.S x.path)) := hz 2 _ rfl
        have d3 : wr.cell? ⟨(ad.add (m * 5)).block, (ad.add (m * 5)).off + 3, none⟩ = some (.int .i64 x.what) := hz 3 _ rfl
        have d4 : wr.cell? ⟨(ad.add (m * 5)).block, (ad.add (m * 5)).off + 4, none⟩ = some (.int .i64 x.when_) := hz 4 _ rfl
        clear hcell hz
        have hcl : ∀ W, Sat g W (star (cellsA wr.heap.size 95 (evC x).toArray) (cellsA b 95 cur.toArray) :: I m) → _ := fun W S' => HD.out m x (star (cellsA wr.heap.size 95 (evC x).toArray) (cellsA b 95 cur.toArray)) W hx S'
        have HX := hide hx
        clear hx
        have hst := filt_step (p := p) HX.out
        have HST := hide hst
        obtain ⟨pb, hpb⟩ : ∃ b, p x = b := ⟨_, rfl⟩
        rw [hpb] at hcl HST
        clear hst hpb
        have HCL := hide hcl
        clear hcl
        obtain ⟨f0, f1, f2, f3, f4⟩ := x
        simp only at d0 d1 d2 d3 d4 HCL
        have S4 := (S3.box #[.int .i64 f0, .int .i64 f1, .string (Go.Proofs.YtanlobdidjednaaGreatDoor.S f2), .int .i64 f3, .int .i64 f4] 95 rfl).join
        have hm0 : (0 : Int) ≤ m := by omega
        have hm1 : (m : Int) < xs.length := by omega
        have ha0 : (0 : Int) ≤ a := by omega
        have ha1 : (a : Int) < xs.length := by omega
        have hcall := HCL.out _ S4
        have hlp : b < wr.heap.size := heap_lt S3.cells_get
        cases pb
        · go_wp2_with (first
            | (go_at_fn gF; refine hcall.mono ?_; rintro e w5 ⟨rfl, S5⟩; have S6 := S5.split; have y0 := S6.p1; have e0 : w5.cell? ⟨wr.heap.size, 0, none⟩ = some (.int .i64 f0) := S6.cell 0 _ rfl; have e1 : w5.cell? ⟨wr.heap.size, 1, none⟩ = some (.int .i64 f1) := S6.cell 1 _ rfl; have e2 : w5.cell? ⟨wr.heap.size, 2, none⟩ = some (.string (Go.Proofs.YtanlobdidjednaaGreatDoor.S f2)) := S6.cell 2 _ rfl; have e3 : w5.cell? ⟨wr.heap.size, 3, none⟩ = some (.int .i64 f3) := S6.cell 3 _ rfl; have e4 : w5.cell? ⟨wr.heap.size, 4, none⟩ = some (.int .i64 f4) := S6.cell 4 _ rfl)
            | ((show Go.wpList _ _ _ (Oper.mk none (Op.store _ _ _) _ _ _ _ :: _) _ _); refine wpList_slay rfl _ (.tmp 33) (.tmp 32) rfl (b := b) (off := a * 5) y0 [.int .i64 f0, .int .i64 f1, .string (Go.Proofs.YtanlobdidjednaaGreatDoor.S f2), .int .i64 f3, .int .i64 f4] (by rw [HAD.out, addr_blk]) rfl rfl (by kernel_rfl) (by simp [r1]; omega) (by simp [Value.oneCell']) ?_; intro w7 S7))
          go_roundw
          case rel =>
            have hst2 := HST.out
            refine ⟨a + 1, m + 1, _, by omega, ?_, by omega, by go_num, by go_num, ?_, ?_, ?_, S7.p1.drop⟩
            · rw [hst2, List.length_append, ← HFA.out]; simp
            · rw [lay_length _ _ _ (by simp [r1]; omega)]; exact r1
            · rw [hst2, List.flatMap_append, ← HR2.out, Nat.succ_mul]
              exact (lay_next (l := cur) (o := a * 5) (cs := [.int .i64 f0, .int .i64 f1, .string (Go.Proofs.YtanlobdidjednaaGreatDoor.S f2), .int .i64 f3, .int .i64 f4]) (by simp [r1]; omega)).trans rfl
            · rw [lay_behind (by simp; omega) (by omega), Nat.succ_mul, ← List.drop_drop, HR3.out, List.drop_drop]
          case measure => simp [RowKit.intOf]; omega
        · go_wp2_with (go_at_fn gF; refine hcall.mono ?_; rintro e w5 ⟨rfl, S5⟩; have S6 := S5.split)
          go_roundw
          case rel =>
            have hst2 := HST.out
            simp only [if_true, List.append_nil] at hst2
            refine ⟨a, m + 1, cur, by omega, ?_, by omega, rfl, by go_num, r1, ?_, ?_, S6.drop⟩
            · rw [hst2]; exact HFA.out
            · rw [hst2]; exact HR2.out
            · rw [Nat.succ_mul, ← List.drop_drop, HR3.out, List.drop_drop]
          case measure => simp [RowKit.intOf]; omega
      · obtain rfl : m = xs.length := by omega
        have ht := HR2.out
        rw [List.take_length] at ht
        have HT := hide ht
        have hfa := HFA.out
        rw [List.take_length] at hfa
        have HFB := hide hfa
        clear ht hfa
        have hN := HN.out
        rw [← HFB.out] at hN
        have hb1 : (a : Int) ≤ (c : Int) := by omega
        have hb2 : ¬ (c = a) := by omega
        have hb3 : ¬ (c - a = 0) := by omega
        have hb4 : (0 : Int) ≤ (a : Int) := by omega
        have hb5 : (a : Int) ≤ (xs.length : Int) := by omega
        have hb6 : (xs.length : Int) ≤ (c : Int) := by omega
        go_wp2_with ((show Go.wpList _ _ _ (Oper.mk none (Op.call _) _ _ _ _ :: _) _ _); refine wpList_sclear slV (by simp [Value.cells, Value.oneCell']) rfl _ rfl S3 (off := a * 5) (by rw [HAD.out, addr_blk]) rfl (by omega) (by rw [r1, ← Nat.add_mul]; exact Nat.mul_le_mul_right _ (by omega)) ?_; intro w5 zs hzs S5)
        go_ret
        refine ⟨_, rfl, ?_⟩
        rw [← HFB.out, HAD.out]
        refine S5.rowShut (by omega) q2 ?_ ?_
        · rw [lay_length _ _ _ (by rw [hzs, r1, ← Nat.add_mul]; exact Nat.mul_le_mul_right _ (by omega))]; exact r1
        · rw [lay_ahead (Nat.le_refl _) (by rw [r1]; exact Nat.mul_le_mul_right _ (by omega))]
          exact HT.out
  · have HA := hide (filt_none ha)
    clear ha
    go_wp2_with fail
    go_ret
    refine ⟨_, rfl, ?_⟩
    rw [HA.out]
    exact S1
end
end

section
set_option linter.unusedVariables false
set_option linter.unusedSimpArgs false
open Go.RowKit

theorem ins_room (cur xs cx : List Value) (o N : Nat) (h1 : cur.take N = xs) (h2 : o ≤ N) (h3 : N + cx.length ≤ cur.length) :
    (lay (lay cur (o + cx.length) (xs.drop o)) o cx).take (N + cx.length) = xs.take o ++ cx ++ xs.drop o := by
  have hx : xs.length = N := by rw [← h1, List.length_take]; omega
  have e1 : (lay cur (o + cx.length) (xs.drop o)).take o = xs.take o := by
    rw [lay_ahead (by omega) (by omega), ← h1, List.take_take, Nat.min_eq_left h2]
  have e2 : (lay cur (o + cx.length) (xs.drop o)).drop (o + cx.length) = xs.drop o ++ cur.drop (o + cx.length + (xs.drop o).length) := by
    unfold lay
    rw [List.append_assoc, List.drop_append, List.drop_eq_nil_of_le (by simp; omega), List.nil_append, List.length_take, Nat.min_eq_left (by omega), Nat.sub_self, List.drop_zero]
  have e3 : lay (lay cur (o + cx.length) (xs.drop o)) o cx = (xs.take o ++ cx ++ xs.drop o) ++ cur.drop (o + cx.length + (xs.drop o).length) := by
    show (lay cur (o + cx.length) (xs.drop o)).take o ++ cx ++ (lay cur (o + cx.length) (xs.drop o)).drop (o + cx.length) = _
    rw [e1, e2]
    simp
  rw [e3]
  exact List.take_left' (by simp; omega)
theorem ins_grow (xs zs cx : List Value) (o : Nat) (h2 : o ≤ xs.length) (h3 : xs.length - o + cx.length ≤ zs.length) :
    (lay (lay (xs.take o ++ zs) o cx) (o + cx.length) (xs.drop o)).take (xs.length + cx.length) = xs.take o ++ cx ++ xs.drop o := by
  have hl : (xs.take o).length = o := by rw [List.length_take]; omega
  have e1 : (lay (xs.take o ++ zs) o cx).take (o + cx.length) = xs.take o ++ cx := by
    rw [lay_next (by simp; omega)]
    congr 1
    exact List.take_left' hl
  have e3 : lay (lay (xs.take o ++ zs) o cx) (o + cx.length) (xs.drop o) = (xs.take o ++ cx ++ xs.drop o) ++ (lay (xs.take o ++ zs) o cx).drop (o + cx.length + (xs.drop o).length) := by
    show (lay (xs.take o ++ zs) o cx).take (o + cx.length) ++ xs.drop o ++ _ = _
    rw [e1]
  rw [e3]
  exact List.take_left' (by simp; omega)

/-- append of zeros, where there is no room -/
theorem wpList_szeros {P : Program} {t tn e : TypeId} {size bytes : Nat} {z : Value} (K0 : Sl P t e size bytes z) (htn : P.underlying tn = some (.int .i64)) {g w : World} {L : List Asn} {ops : Array Oper} {rest : List Oper} {o : Oper} {a : Go.Act} {Q : Exit → Go.Act → World → Prop} (hgd : o.guard = none) (s x : Operand)
    (ho : o.op = .call { callee := .builtin .append, args := #[s, x], argTypes := #[t, tn] }) (S : Sat g w L) {ad : Addr} {n c k : Nat} {xs : List Value} (hsrc : Src w size (some ad) n xs) (hs : a.eval s = .slice (some ad) n c) {kk : Int} (hkk : kk = k) (hx : a.eval x = .int .i64 kk)
    {N : Nat} (hN : n + k = N) (h0 : 0 < k) (hc : c < n + k) (h63 : n + k ≤ maxLen) (hbytes : (n + k) * bytes ≤ 140737488355328)
    (h : ∀ (b G : Nat) (ad' : Addr) (zs : List Value) w', Hid (ad' = ⟨b, 0, none⟩) → N ≤ G → G ≤ maxLen → zs.length = (G - n) * size → Sat g w' (cellsA b e (xs ++ zs).toArray :: L) → wpList P ops Q rest (a.put o.dst (.slice (some ad') N G)) w') : wpList P ops Q (o :: rest) a w := by
  subst hkk hN
  refine wpList_plain hgd fun K hK => ?_
  obtain ⟨i, hi, hz, rfl, rfl⟩ := K0.info
  have hpos := K0.pos
  have hold : (Builtin.firstCells i.size n (.slice (some ad) n c)).run P w.drew = .ok xs.toArray w.drew :=
    run_firstCells_some (w := w.drew) i.size n ad n c xs hsrc.1 (fun j v hj => by
      have hlt := (List.getElem?_eq_some_iff.1 hj).1
      have hn : 0 < n := by
        rcases Nat.eq_zero_or_pos n with h | h
        · have := hsrc.1; subst h; simp at this; subst this; simp at hlt
        · exact h
      obtain ⟨ad', e', h3⟩ := hsrc.2 hn
      cases e'
      exact h3 j v hj)
  have hk1 : k ≤ n + k := by omega
  have hkb : k * i.bytes ≤ 281474976710656 := Nat.le_trans (Nat.mul_le_mul_right _ hk1) (by omega)
  have hr := Lib.run_append_grow_zeros (P := P) w t tn o.type e i z .i64 .i64 K0.sl htn hi hz (some ad) n c xs hold k h0 hpos hc (by simp only [maxLen] at h63; omega) hkb (growslice_fits hc hbytes)
  have hG := grownCap_ge w (n + k) c e
  have hGm := grownCap_le_maxLen w (n + k) c e h63
  generalize grownCap w (n + k) c e = G at *
  unfold Oper.wp execOp
  simp only [ho, resolve, invoke, builtin, Sem.run_bind, Sem.run_pure, Result.andThen_ok, List.map_toArray, List.map_cons, List.map_nil, hs, hx, hr]
  have hsz := K0.cells
  refine hK _ _ (h w.heap.size G _ ((Builtin.zeroCells z.cells k).toList ++ (Builtin.zeroCells z.cells (G - (n + k))).toList) _ rfl hG hGm ?_ ?_)
  · rw [List.length_append, Array.length_toList, Array.length_toList, size_zeroCells, size_zeroCells, hsz, ← Nat.add_mul]
    congr 1
    omega
  · have e1 : xs.toArray ++ Builtin.zeroCells z.cells k ++ Builtin.zeroCells z.cells (G - (n + k)) = (xs ++ ((Builtin.zeroCells z.cells k).toList ++ (Builtin.zeroCells z.cells (G - (n + k))).toList)).toArray := by
      apply Array.ext'
      simp
    rw [e1]
    exact S.drew.box _ e (b := w.heap.size) rfl

theorem Src.cells {w : World} {size n : Nat} {ad : Addr} {xs : List Value} (h : Src w size (some ad) n xs) : ∀ j v, xs[j]? = some v → w.cell? (ad.add j) = some v := by
  intro j v hj
  have hlt := (List.getElem?_eq_some_iff.1 hj).1
  have hn : 0 < n := by
    rcases Nat.eq_zero_or_pos n with h0 | h0
    · have := h.1; subst h0; simp at this; subst this; simp at hlt
    · exact h0
  obtain ⟨ad', e', h3⟩ := h.2 hn
  cases e'
  exact h3 j v hj

set_option maxRecDepth 100000 in
set_option maxHeartbeats 4000000 in
theorem ins_end_nil {g w : World} {L : List Asn} {xs cx : List Value} {n c i vb : Nat} (S : Sat g w (cellsA vb 126 cx.toArray :: rowA 126 4 (.slice none n c) n xs :: L)) (hx : xs.length = n * 4) (hc4 : cx.length = 4) (h1 : ∀ u ∈ xs, u.oneCell' = true) (h2 : ∀ u ∈ cx, u.oneCell' = true) (hnc : n ≤ c) (hcm : c ≤ 9223372036854775807) (hl : n ≤ 1000) (hin : i = n) :
    Calls Tryz.prog 98 #[.slice none n c, .int .i64 i, .slice (some ⟨vb, 0, none⟩) 1 1] w fun e w' =>
      ∃ v', e = .returned v' ∧ Sat g w' (rowA 126 4 v' (n + 1) (xs.take (i * 4) ++ cx ++ xs.drop (i * 4)) :: L) := by
  have HX1 := hide h1
  have HW1 := hide h2
  have HW := hide hc4
  have HM := hide hx
  clear h1 h2
  have hsv : Src w 4 (some ⟨vb, 0, none⟩) 1 cx := Src.block S.cells_get 4 1 (by simpa using hc4)
  clear hx hc4
  subst hin
  have HF := hide (show xs.take (i * 4) ++ cx ++ xs.drop (i * 4) = xs ++ cx by
    have := HM.out
    rw [List.take_of_length_le (by omega), List.drop_eq_nil_of_le (by omega), List.append_nil])
  have hnc' : (i : Int) ≤ (c : Int) := by omega
  go_enter Tryz.func98, Tryz.ntmps98
  go_wp2_with (at_builtin; refine wpList_sapp slW rfl (.tmp 23) (.tmp 24) rfl (g := g) (S := S.p1) rfl hsv rfl HW1.out (by unfold maxLen; omega) (by omega) ?_; intro A5 c5 w5 S5)
  all_goals
    go_ret
    refine ⟨_, rfl, ?_⟩
    rw [HF.out]
    exact S5.p1.drop

set_option maxRecDepth 100000 in
set_option maxHeartbeats 4000000 in
theorem ins_end_full {g w : World} {L : List Asn} {xs cx : List Value} {ad : Addr} {n c i vb : Nat} (S : Sat g w (cellsA vb 126 cx.toArray :: rowA 126 4 (.slice (some ad) n c) n xs :: L)) (hx : xs.length = n * 4) (hc4 : cx.length = 4) (h1 : ∀ u ∈ xs, u.oneCell' = true) (h2 : ∀ u ∈ cx, u.oneCell' = true) (hnc : n ≤ c) (hcm : c ≤ 9223372036854775807) (hl : n ≤ 1000) (hin : i = n) (hci : i = c) :
    Calls Tryz.prog 98 #[.slice (some ad) n c, .int .i64 i, .slice (some ⟨vb, 0, none⟩) 1 1] w fun e w' =>
      ∃ v', e = .returned v' ∧ Sat g w' (rowA 126 4 v' (n + 1) (xs.take (i * 4) ++ cx ++ xs.drop (i * 4)) :: L) := by
  have HX1 := hide h1
  have HW1 := hide h2
  have HW := hide hc4
  have HM := hide hx
  clear h1 h2
  have hsv : Src w 4 (some ⟨vb, 0, none⟩) 1 cx := Src.block S.cells_get 4 1 (by simpa using hc4)
  clear hx hc4
  subst hin
  subst hci
  have HF := hide (show xs.take (i * 4) ++ cx ++ xs.drop (i * 4) = xs ++ cx by
    have := HM.out
    rw [List.take_of_length_le (by omega), List.drop_eq_nil_of_le (by omega), List.append_nil])
  have hnc' : (i : Int) ≤ (i : Int) := by omega
  go_enter Tryz.func98, Tryz.ntmps98
  go_wp2_with (at_builtin; refine wpList_sapp slW rfl (.tmp 23) (.tmp 24) rfl (g := g) (S := S.p1) rfl hsv rfl HW1.out (by unfold maxLen; omega) (by omega) ?_; intro A5 c5 w5 S5)
  all_goals
    go_ret
    refine ⟨_, rfl, ?_⟩
    rw [HF.out]
    exact S5.p1.drop

set_option maxRecDepth 100000 in
set_option maxHeartbeats 4000000 in
theorem ins_end_part {g w : World} {L : List Asn} {xs cx : List Value} {ad : Addr} {n c i vb : Nat} (S : Sat g w (cellsA vb 126 cx.toArray :: rowA 126 4 (.slice (some ad) n c) n xs :: L)) (hx : xs.length = n * 4) (hc4 : cx.length = 4) (h1 : ∀ u ∈ xs, u.oneCell' = true) (h2 : ∀ u ∈ cx, u.oneCell' = true) (hnc : n ≤ c) (hcm : c ≤ 9223372036854775807) (hl : n ≤ 1000) (hin : i = n) (hci : ¬ c = i) :
    Calls Tryz.prog 98 #[.slice (some ad) n c, .int .i64 i, .slice (some ⟨vb, 0, none⟩) 1 1] w fun e w' =>
      ∃ v', e = .returned v' ∧ Sat g w' (rowA 126 4 v' (n + 1) (xs.take (i * 4) ++ cx ++ xs.drop (i * 4)) :: L) := by
  have HX1 := hide h1
  have HW1 := hide h2
  have HW := hide hc4
  have HM := hide hx
  clear h1 h2
  have hsv : Src w 4 (some ⟨vb, 0, none⟩) 1 cx := Src.block S.cells_get 4 1 (by simpa using hc4)
  clear hx hc4
  subst hin
  have HF := hide (show xs.take (i * 4) ++ cx ++ xs.drop (i * 4) = xs ++ cx by
    have := HM.out
    rw [List.take_of_length_le (by omega), List.drop_eq_nil_of_le (by omega), List.append_nil])
  have hnc' : (i : Int) ≤ (c : Int) := by omega
  have hci2 : ¬ (c - i = 0) := by omega
  go_enter Tryz.func98, Tryz.ntmps98
  go_wp2_with (at_builtin; refine wpList_sapp slW rfl (.tmp 23) (.tmp 24) rfl (g := g) (S := S.p1) rfl hsv rfl HW1.out (by unfold maxLen; omega) (by omega) ?_; intro A5 c5 w5 S5)
  all_goals
    go_ret
    refine ⟨_, rfl, ?_⟩
    rw [HF.out]
    exact S5.p1.drop
end

section
set_option linter.unusedVariables false
set_option linter.unusedSimpArgs false
open Go.RowKit

set_option maxRecDepth 100000 in
set_option maxHeartbeats 4000000 in
theorem ins_mid_grow {g w : World} {L : List Asn} {xs cx : List Value} {ad : Addr} {n c i vb : Nat} (S : Sat g w (cellsA vb 126 cx.toArray :: rowA 126 4 (.slice (some ad) n c) n xs :: L)) (hx : xs.length = n * 4) (hc4 : cx.length = 4) (h1 : ∀ u ∈ xs, u.oneCell' = true) (h2 : ∀ u ∈ cx, u.oneCell' = true) (hnc : n ≤ c) (hcm : c ≤ 9223372036854775807) (hl : n ≤ 1000) (hin : i < n) (hroom : c < n + 1) :
    Calls Tryz.prog 98 #[.slice (some ad) n c, .int .i64 i, .slice (some ⟨vb, 0, none⟩) 1 1] w fun e w' =>
      ∃ v', e = .returned v' ∧ Sat g w' (rowA 126 4 v' (n + 1) (xs.take (i * 4) ++ cx ++ xs.drop (i * 4)) :: L) := by
  have HX1 := hide h1
  have HW1 := hide h2
  have HW := hide hc4
  have HM := hide hx
  clear h1 h2
  have hsv : Src w 4 (some ⟨vb, 0, none⟩) 1 cx := Src.block S.cells_get 4 1 (by simpa using hc4)
  clear hx hc4
  have hi0 : (0 : Int) ≤ (i : Int) := by omega
  have hi1 : (i : Int) ≤ (n : Int) := by omega
  have hnc' : (n : Int) ≤ (c : Int) := by omega
  have hic : (i : Int) ≤ (c : Int) := by omega
  have hlt : i < n := by omega
  have hinb : ((i : Int) == (n : Int)) = false := by simpa using (show ¬ (i : Int) = (n : Int) by omega)
  have hinp : ¬ ((i : Int) = (n : Int)) := by omega
  have hci : ¬ (c = i) := by omega
  have hci2 : ¬ (c - i = 0) := by omega
  have hsrc := S.p1.srcR
  obtain ⟨b, cur, had, q1, q2, q3, q4, S1⟩ := S.p1.rowOpen
  have HAD := hide had
  have HQ4 := hide q4
  clear had q4
  obtain rfl : c = n := by omega
  have hbig : (c : Int) < (c : Int) + 1 := by omega
  have HK : Hid (((c : Int) + 1 - (i : Int)) = ((c + 1 - i : Nat) : Int)) := by show _ = _; omega
  have hsi := hsrc.pre i (by omega)
  have hss := hsrc.suf i (by omega)
  clear hsrc
  go_enter Tryz.func98, Tryz.ntmps98
  go_upto_region 10 with (at_builtin; refine wpList_szeros slW Tryz.underlying3 rfl (.tmp 34) (.tmp 39) rfl (g := g) (S := S) (k := c + 1 - i) hsi rfl HK.out rfl (N := c + 1) (by omega) (by omega) (by omega) (by unfold maxLen; omega) (by omega) ?_; intro b2 G ad2 zs w2 had2 hG1 hG2 hzs S2)
  have hs2 : Src w2 4 (some ⟨vb, 0, none⟩) 1 cx := Src.block S2.p1.cells_get 4 1 (by simpa using HW.out)
  have hl2 : (xs.take (i * 4) ++ zs).length = G * 4 := by rw [List.length_append, List.length_take, hzs, HM.out, Nat.min_eq_left (by omega), ← Nat.add_mul]; congr 1; omega
  have HL2 := hide hl2
  have HZS := hide hzs
  clear hl2 hzs hsi hss S1
  have hg1 : (i : Int) ≤ (G : Int) := by omega
  have hg2 : ¬ (G = i) := by omega
  have hg3 : ¬ (G - i = 0) := by omega
  have hg4 : (i : Int) ≤ (c : Int) + 1 := by omega
  simp only [maxLen] at hG2
  have hcx := HW.out
  obtain ⟨Y, hY⟩ : ∃ Y, xs.take (i * 4) ++ zs = Y := ⟨_, rfl⟩
  rw [hY] at S2 HL2
  have HY := hide hY
  clear hY
  go_upto_region 11 with ((show Go.wpList _ _ _ (Oper.mk (some 45) (Op.call _) _ _ _ _ :: _) _ _); refine wpList_scopy rfl (.tmp 43) (.tmp 44) _ _ _ rfl Tryz.underlying116 (k := 4) (by kernel_rfl) S2 (off := i * 4) (by rw [had2.out, addr_blk]) rfl rfl cx (by rw [hcx]; exact (show 4 = min _ _ * 4 by omega)) hs2.cells (by rw [HL2.out]; omega) HW1.out ?_; intro w3 S3)
  have hs3 := S3.p2.srcR.suf i (by omega)
  have HL3 := hide ((lay_length Y (i * 4) cx (by rw [HL2.out]; omega)).trans HL2.out)
  obtain ⟨Z, hZ⟩ : ∃ Z, lay Y (i * 4) cx = Z := ⟨_, rfl⟩
  rw [hZ] at S3 HL3
  have HZ := hide hZ
  clear hZ S2 hs2 S
  have hv1 : (0 : Int) ≤ (i : Int) + 1 := by omega
  have hv2 : ((i : Int) + 1).toNat = i + 1 := by omega
  have hv3 : (i : Int) + 1 ≤ (c : Int) + 1 := by omega
  have hv4 : (i : Int) + 1 ≤ (G : Int) := by omega
  have hv5 : IntKind.i64.wrap ((i : Int) + 1) = (i : Int) + 1 := IntWalk.i64_in _ ⟨by omega, by omega⟩
  have hv6 : ¬ (G = i + 1) := by omega
  have hv7 : ¬ (G - (i + 1) = 0) := by omega
  have hdl : (xs.drop (i * 4)).length = (c - i) * 4 := by rw [List.length_drop, HM.out, Nat.sub_mul]
  have HDL := hide hdl
  clear hdl

  go_region_law (refine step_scopy rfl (.tmp 50) (.tmp 53) _ _ _ rfl Tryz.underlying116 (k := 4) (by kernel_rfl) (g := g) (S := by first | exact S3 | exact S3.drew | exact S3.drewN _) (off := (i + 1) * 4) (dd := ad2.add ((i + 1) * 4)) (dLen := c - i) (dCap := G - (i + 1)) (ad := ad.add (i * 4)) (sLen := c - i) (sCap := c - i) (by rw [had2.out, addr_blk]) (by go_simp) (by go_simp) (xs.drop (i * 4)) (by rw [HDL.out]; exact (show _ = min _ _ * 4 by rw [Nat.min_self])) (by first | exact hs3.cells | exact (hs3.keep (Keeps.refl (fun _ => False) _).drew (fun _ _ h => h)).cells | exact (hs3.keep ((Keeps.refl (fun _ => False) _).drewN _) (fun _ _ h => h)).cells) (by rw [HL3.out, HDL.out]; omega) (fun u hu => HX1.out u (List.mem_of_mem_drop hu)) ?_; intro w4 S4)
  all_goals
    go_wp2_with fail
    go_ret
    refine ⟨_, rfl, ?_⟩
    rw [had2.out]
    refine (S4.p2.drop.p1.drop.rowShut hG1 hG2 ?_ ?_)
    · rw [lay_length _ _ _ (by rw [HL3.out, HDL.out]; omega), HL3.out]
    · have e1 := ins_grow xs zs cx (i * 4) (by rw [HM.out]; omega) (by rw [HM.out, HW.out, HZS.out]; omega)
      rw [HM.out, HW.out, ← Nat.succ_mul, ← Nat.succ_mul] at e1
      rw [← HZ.out, ← HY.out]
      exact e1
end

section
set_option linter.unusedVariables false
set_option linter.unusedSimpArgs false
open Go.RowKit


theorem ovl_watch {g w : World} {L : List Asn} {cx cur : List Value} {b vb : Nat} (S : Sat g w (cellsA vb 126 cx.toArray :: cellsA b 126 cur.toArray :: L)) (h0 : cur.length ≠ 0) (k lb cb : Nat) :
    (callFunc 118 #[.slice (some ⟨vb, 0, none⟩) 1 1, .slice (some ⟨b, k, none⟩) lb cb]).run Tryz.prog w = .ok (.value (.bool false)) w := by
  rw [run_callFunc_extern Tryz.func118 (by kernel_rfl) (by kernel_rfl) (by kernel_rfl) (e := Extern.SlicesOverlaps.overlaps #[116, 116] #[4]) (by kernel_rfl),
    Lib.run_overlaps_apart w 116 4 126 Tryz.underlying116 4 Tryz.sizeOf126 ⟨vb, 0, none⟩ ⟨b, k, none⟩ 1 1 lb cb S.own_ne 126 126 cx.toArray.size cur.toArray.size
      (by unfold World.shape?; rw [show w.heap[vb]? = _ from S.cells_get]) (by unfold World.shape?; rw [show w.heap[b]? = _ from S.p1.cells_get]) (by simpa using h0) (S.cells_fz 0) (S.cells_fz _)]
  rfl

set_option maxRecDepth 100000 in
set_option maxHeartbeats 4000000 in
theorem ins_mid_room {g w : World} {L : List Asn} {xs cx : List Value} {ad : Addr} {n c i vb : Nat} (S : Sat g w (cellsA vb 126 cx.toArray :: rowA 126 4 (.slice (some ad) n c) n xs :: L)) (hx : xs.length = n * 4) (hc4 : cx.length = 4) (h1 : ∀ u ∈ xs, u.oneCell' = true) (h2 : ∀ u ∈ cx, u.oneCell' = true) (hnc : n ≤ c) (hcm : c ≤ 9223372036854775807) (hl : n ≤ 1000) (hin : i < n) (hroom : n + 1 ≤ c) :
    Calls Tryz.prog 98 #[.slice (some ad) n c, .int .i64 i, .slice (some ⟨vb, 0, none⟩) 1 1] w fun e w' =>
      ∃ v', e = .returned v' ∧ Sat g w' (rowA 126 4 v' (n + 1) (xs.take (i * 4) ++ cx ++ xs.drop (i * 4)) :: L) := by
  have HX1 := hide h1
  have HW1 := hide h2
  have HW := hide hc4
  have HM := hide hx
  clear h1 h2
  have hsv : Src w 4 (some ⟨vb, 0, none⟩) 1 cx := Src.block S.cells_get 4 1 (by simpa using hc4)
  clear hx hc4
  have hi0 : (0 : Int) ≤ (i : Int) := by omega
  have hi1 : (i : Int) ≤ (n : Int) := by omega
  have hnc' : (n : Int) ≤ (c : Int) := by omega
  have hic : (i : Int) ≤ (c : Int) := by omega
  have hlt : i < n := by omega
  have hnc1 : ¬ (n + 1 = i) := by omega
  have hinb : ((i : Int) == (n : Int)) = false := by simpa using (show ¬ (i : Int) = (n : Int) by omega)
  have hinp : ¬ ((i : Int) = (n : Int)) := by omega
  have hci : ¬ (c = i) := by omega
  have hci2 : ¬ (c - i = 0) := by omega
  have hsrc := S.p1.srcR
  obtain ⟨b, cur, had, q1, q2, q3, q4, S1⟩ := S.p1.rowOpen
  have HAD := hide had
  have HQ4 := hide q4
  clear had q4
  have hbig : (n : Int) + 1 ≤ (c : Int) := by omega
  have hbig0 : (0 : Int) ≤ (n : Int) + 1 := by omega
  have hbig1 : ((n : Int) + 1).toNat = n + 1 := by omega
  have hv1 : (0 : Int) ≤ (i : Int) + 1 := by omega
  have hv2 : ((i : Int) + 1).toNat = i + 1 := by omega
  have hv3 : (i : Int) + 1 ≤ (n : Int) + 1 := by omega
  have hv3' : (i : Int) ≤ (n : Int) + 1 := by omega
  have hv4 : (i : Int) + 1 ≤ (c : Int) := by omega
  have hv5 : IntKind.i64.wrap ((i : Int) + 1) = (i : Int) + 1 := IntWalk.i64_in _ ⟨by omega, by omega⟩
  have hv6 : ¬ (c = i + 1) := by omega
  have hv7 : ¬ (c - (i + 1) = 0) := by omega
  have hdl : (xs.drop (i * 4)).length = (n - i) * 4 := by rw [List.length_drop, HM.out, Nat.sub_mul]
  have HDL := hide hdl
  clear hdl hsrc
  have hss : ∀ j v, (xs.drop (i * 4))[j]? = some v → w.drew.cell? ((⟨b, i * 4, none⟩ : Addr).add j) = some v := fun j v hj => by
    rw [show (⟨b, i * 4, none⟩ : Addr).add j = ⟨b, i * 4 + j, none⟩ from by unfold Addr.add; split <;> simp_all]
    refine S1.drew.cellL _ v ?_
    rw [← HQ4.out, List.getElem?_drop, List.getElem?_take] at hj
    split at hj
    · exact hj
    · cases hj
  have hov := fun lb cb => ovl_watch (L := L) (w := w) (cx := cx) (cur := cur) (b := b) (vb := vb) (S := S1.p1) (by omega) ((i + 1) * 4) lb cb
  rw [HAD.out]
  go_enter Tryz.func98, Tryz.ntmps98
  go_upto_region 15 with (simp only [hov])
  go_region_law (refine step_scopy rfl (.tmp 73) (.tmp 76) _ _ _ rfl Tryz.underlying116 (k := 4) (by kernel_rfl) (g := g) (S := S1.drew) (off := (i + 1) * 4) (dd := ⟨b, (i + 1) * 4, none⟩) (dLen := n - i) (dCap := c - (i + 1)) (ad := ⟨b, i * 4, none⟩) (sLen := n + 1 - i) (sCap := c - i) rfl (by go_simp) (by go_simp) (xs.drop (i * 4)) (by rw [HDL.out]; exact (show _ = min _ _ * 4 by rw [Nat.min_eq_right (by omega)])) hss (by rw [HDL.out]; omega) (fun u hu => HX1.out u (List.mem_of_mem_drop hu)) ?_; intro w4 S4)
  all_goals
    have HL3 := hide ((lay_length cur ((i + 1) * 4) (xs.drop (i * 4)) (by rw [HDL.out]; omega)).trans q3)
    obtain ⟨Z, hZ⟩ : ∃ Z, lay cur ((i + 1) * 4) (xs.drop (i * 4)) = Z := ⟨_, rfl⟩
    rw [hZ] at S4 HL3
    have HZ := hide hZ
    clear hZ hov hss
    have hs4 : Src w4 4 (some ⟨vb, 0, none⟩) 1 cx := Src.block S4.p1.cells_get 4 1 (by simpa using HW.out)
    have hcx := HW.out
    go_wp2_with ((show Go.wpList _ _ _ (Oper.mk (some 82) (Op.call _) _ _ _ _ :: _) _ _); refine wpList_scopy rfl (.tmp 80) (.tmp 81) _ _ _ rfl Tryz.underlying116 (k := 4) (by kernel_rfl) (g := g) (S := S4) (off := i * 4) rfl rfl rfl cx (by rw [hcx]; exact (show 4 = min _ _ * 4 by omega)) hs4.cells (by rw [HL3.out]; omega) HW1.out ?_; intro w5 S5)
    go_ret
    refine ⟨_, rfl, ?_⟩
    refine (S5.p1.drop.rowShut hroom q2 ?_ ?_)
    · rw [lay_length _ _ _ (by rw [HL3.out]; omega), HL3.out]
    · have e1 := ins_room cur xs cx (i * 4) (n * 4) HQ4.out (by omega) (by rw [HW.out]; omega)
      rw [HW.out, ← Nat.succ_mul, ← Nat.succ_mul] at e1
      rw [← HZ.out]
      exact e1
end

section
set_option linter.unusedVariables false
set_option linter.unusedSimpArgs false
open Go.RowKit

theorem ins_watch {g w : World} {L : List Asn} {v : Value} {ws : List WatT} {vb : Nat} {x : WatT} (S : Sat g w (cellsA vb 126 (watC x).toArray :: rowA 126 4 v ws.length (ws.flatMap watC) :: L)) (i : Nat) (hi : i ≤ ws.length) (hl : ws.length ≤ 1000) :
    Calls Tryz.prog 98 #[v, .int .i64 i, .slice (some ⟨vb, 0, none⟩) 1 1] w fun e w' =>
      ∃ v', e = .returned v' ∧ Sat g w' (rowA 126 4 v' (ws.length + 1) ((ws.take i ++ [x] ++ ws.drop i).flatMap watC) :: L) := by
  obtain ⟨A, c, rfl, hnc, hcm, -⟩ := S.p1.row.form
  have hxs : (ws.take i ++ [x] ++ ws.drop i).flatMap watC = (ws.flatMap watC).take (i * 4) ++ watC x ++ (ws.flatMap watC).drop (i * 4) := by
    rw [flatK_take (f := watC) (n := 4) (fun _ => rfl), flatK_drop (f := watC) (n := 4) (fun _ => rfl), List.flatMap_append, List.flatMap_append]
    simp
  have hxl : (ws.flatMap watC).length = ws.length * 4 := flatK_len (f := watC) (n := 4) (fun _ => rfl) ws
  have h1 := flatK_one watC_one ws
  have h2 := watC_one x
  have hc4 : (watC x).length = 4 := rfl
  have hcm' : c ≤ 9223372036854775807 := by
    unfold maxLen at hcm; omega
  rw [hxs]
  cases A with
  | none =>
    by_cases hin : i = ws.length
    · exact ins_end_nil S hxl hc4 h1 h2 hnc hcm' hl hin
    · exfalso
      rcases S.p1.row.2 with h | h
      · omega
      · obtain ⟨_, _, _, h, _⟩ := h
        cases h
  | some ad =>
    by_cases hin : i = ws.length
    · by_cases hci : i = c
      · exact ins_end_full S hxl hc4 h1 h2 hnc hcm' hl hin hci
      · exact ins_end_part S hxl hc4 h1 h2 hnc hcm' hl hin (fun h => hci h.symm)
    · by_cases hroom : c < ws.length + 1
      · exact ins_mid_grow S hxl hc4 h1 h2 hnc hcm' hl (by omega) hroom
      · exact ins_mid_room S hxl hc4 h1 h2 hnc hcm' hl (by omega) (by omega)
end

section
set_option linter.unusedVariables false
set_option linter.unusedSimpArgs false
open Go.RowKit

abbrev kW (k : Int) : Value := .int .i64 k
theorem kWT : KeyT Tryz.prog 3 (.int .i64) kW := ⟨Tryz.underlying3, fun _ => rfl, fun a b h => by injection h⟩
/-- a book: watches in order, events, the last numbers -/
structure BookT where
  ws : List WatT
  es : List EvT
  nos : List (Int × Int)
def notesA (b : Nat) (wv : Value) (es : List EvT) (nos : List (Int × Int)) : Asn := exA fun x : Value × Nat =>
  star (cellsA b 118 #[wv, x.1, .map (some x.2)]) (star (rowA 95 5 x.1 es.length (es.flatMap evC)) (mapA kW kW x.2 nos))
def bookA (b : Nat) (B : BookT) : Asn := exA fun wv : Value => star (notesA b wv B.es B.nos) (rowA 126 4 wv B.ws.length (B.ws.flatMap watC))

section
variable {g w : World} {L : List Asn} {b : Nat} {wv : Value} {es : List EvT} {nos : List (Int × Int)} {B : BookT}
theorem Sat.notesOpen (S : Sat g w (notesA b wv es nos :: L)) : ∃ (ev : Value) (m : Nat), Sat g w (cellsA b 118 #[wv, ev, .map (some m)] :: rowA 95 5 ev es.length (es.flatMap evC) :: mapA kW kW m nos :: L) := by
  obtain ⟨⟨ev, m⟩, S⟩ := S.ex
  exact ⟨ev, m, S.split.p1.split.p2⟩
theorem Sat.notesShut {ev : Value} {m : Nat} (S : Sat g w (cellsA b 118 #[wv, ev, .map (some m)] :: rowA 95 5 ev es.length (es.flatMap evC) :: mapA kW kW m nos :: L)) : Sat g w (notesA b wv es nos :: L) :=
  Sat.ex_ (ev, m) (S.b2.join.p1.join)
theorem Sat.bookOpen (S : Sat g w (bookA b B :: L)) : ∃ wv : Value, Sat g w (notesA b wv B.es B.nos :: rowA 126 4 wv B.ws.length (B.ws.flatMap watC) :: L) := by
  obtain ⟨wv, S⟩ := S.ex
  exact ⟨wv, S.split⟩
theorem Sat.bookShut (S : Sat g w (notesA b wv B.es B.nos :: rowA 126 4 wv B.ws.length (B.ws.flatMap watC) :: L)) : Sat g w (bookA b B :: L) := Sat.ex_ wv S.join
end

theorem new_book {g w : World} {L : List Asn} (S : Sat g w L) : Calls Tryz.prog 36 #[] w fun e w' => ∃ t, e = .returned (ptr t) ∧ Sat g w' (bookA t ⟨[], [], []⟩ :: L) := by
  have hmm := @run_makeMap Tryz.prog
  go_enter Tryz.func36, Tryz.ntmps36
  go_wp2_with fail
  go_ret
  refine ⟨w.heap.size + 1, rfl, ?_⟩
  have S1 : Sat g (w.alloc (.map #[] 0)) (mapA kW kW w.heap.size [] :: L) := S.mapNew ((Keeps.refl _ w).alloc _) (Nat.le_refl _) (MapOf.made kW kW w)
  exact Sat.bookShut (wv := .slice none 0 0) (B := ⟨[], [], []⟩) (Sat.notesShut (((((S1.nilRow 126 4).p1.nilRow 95 5)).box #[.slice none 0 0, .slice none 0 0, .map (some w.heap.size)] 118 (b := w.heap.size + 1) (by simp))))

set_option maxRecDepth 100000 in
set_option maxHeartbeats 4000000 in
theorem clone_wat {g w : World} {L : List Asn} {v : Value} {ws : List WatT} (S : Sat g w (rowA 126 4 v ws.length (ws.flatMap watC) :: L)) (hl : ws.length ≤ 1000000) :
    Calls Tryz.prog 60 #[v] w fun e w' => ∃ v', e = .returned v' ∧ Sat g w' (rowA 126 4 v' ws.length (ws.flatMap watC) :: rowA 126 4 v ws.length (ws.flatMap watC) :: L) := by
  obtain ⟨A, c, rfl, hnc, hcm, hsrc, -⟩ := S.row.form
  have hone := flatK_one watC_one ws
  cases A with
  | none =>
    have h0 : ws.length = 0 := by
      rcases S.row.2 with h | h
      · omega
      · obtain ⟨_, _, _, h, _⟩ := h
        cases h
    have hc : c = 0 := by
      rcases S.row.2 with h | h
      · injection h.1
      · obtain ⟨_, _, _, h, _⟩ := h
        cases h
    have h1 : ws = [] := by simpa using h0
    subst h1 hc
    simp only [List.length_nil]
    have hnil : ∀ w, (Go.binOp .eql 116 (.slice none 0 0) (.slice none 0 0)).run Tryz.prog w = .ok (.bool true) w := fun w => by kernel_rfl
    go_enter Tryz.func60, Tryz.ntmps60
    go_wp2_with fail
    go_ret
    exact ⟨_, rfl, S.nilRow _ _⟩
  | some ad =>
    have hnil : ∀ w, (Go.binOp .eql 116 (.slice (some ad) ws.length c) (.slice none 0 0)).run Tryz.prog w = .ok (.bool false) w := fun w => by kernel_rfl
    have HX := hide hone
    clear hone
    go_enter Tryz.func60, Tryz.ntmps60
    go_wp2_with (at_builtin; refine wpList_sapp slW rfl (.tmp 5) (.tmp 6) rfl (g := g) (S := (S.box #[] 126 rfl).rowOf 4 0 rfl (Nat.zero_le _)) rfl (hsrc.keep ((Keeps.refl (fun _ => False) _).alloc _) (fun _ _ h => h)) rfl HX.out (by unfold maxLen; omega) (by omega) ?_; intro A5 c5 w5 S5)
    go_ret
    refine ⟨_, rfl, ?_⟩
    simpa using S5

def hearsF (x : WatT) (s : List UInt8) (what : Int) : Int × Bool :=
  if x.path = s ∧ (x.kids = false ∨ what = 2) then (what, true) else if x.kids = true ∧ x.path = (upF s).1 ∧ what ≠ 3 then (4, true) else (0, false)

set_option maxRecDepth 100000 in
set_option maxHeartbeats 4000000 in
theorem hears_watch (w : World) (x : WatT) (s : List UInt8) (what : Int) (hs : s.length ≤ 140737488355328) :
    Calls Tryz.prog 91 #[watV x, .string (S s), .int .i64 what] w fun e w' => e = .returned (.tuple #[.int .i64 (hearsF x s what).1, .bool (hearsF x s what).2]) ∧ Keeps (fun _ => False) w w' := by
  have HU : Hid (∀ w, Calls Tryz.prog 88 #[.string (S s)] w fun e w' => e = .returned (.tuple #[.string (S (upF s).1), .string (S (upF s).2)]) ∧ Keeps (fun _ => False) w w') := fun w => up_path w s hs
  have HF : Hid (hearsF x s what = if x.path = s ∧ (x.kids = false ∨ what = 2) then (what, true) else if x.kids = true ∧ x.path = (upF s).1 ∧ what ≠ 3 then (4, true) else (0, false)) := rfl
  generalize hearsF x s what = R at *
  generalize (upF s).1 = U at *
  generalize (upF s).2 = U2 at *
  obtain ⟨ss, p, k, o⟩ := x
  simp only at HF
  have S0 := (Sat.start w).box #[.int .i64 ss, .string (Go.Proofs.YtanlobdidjednaaGreatDoor.S p), .bool k, .bool o] 126 rfl
  have hk0 : Keeps (fun _ => False) w (w.alloc (.cells #[.int .i64 ss, .string (Go.Proofs.YtanlobdidjednaaGreatDoor.S p), .bool k, .bool o] 126)) := (Keeps.refl _ w).alloc _
  go_enter Tryz.func91, Tryz.ntmps91
  go_upto_region 1 with fail
  generalize w.alloc (.cells #[.int .i64 ss, .string (Go.Proofs.YtanlobdidjednaaGreatDoor.S p), .bool k, .bool o] 126) = wB at *
  generalize w.heap.size = xb at *
  have HK0 := hide hk0
  clear hk0
  go_wp2_with fail
  refine (HU.out _).mono ?_
  rintro e w1 ⟨rfl, hk1⟩
  have S1 := S0.keep hk1
  have x1 : w1.cell? ⟨xb, 1, none⟩ = some (.string (Go.Proofs.YtanlobdidjednaaGreatDoor.S p)) := S1.cell 1 _ rfl
  have x2 : w1.cell? ⟨xb, 2, none⟩ = some (.bool k) := S1.cell 2 _ rfl
  have HK1 := hide (HK0.out.trans' hk1)
  clear hk1 S1 S0 HK0 HU
  have fin : ∀ (r : Int × Bool), R = r → Ending.returned (.tuple #[.int .i64 r.1, .bool r.2]) = Ending.returned (.tuple #[.int .i64 R.1, .bool R.2]) := fun r h => by rw [h]
  by_cases hp : p = s
  · subst hp
    by_cases hw : k = false ∨ what = 2
    · have e : R = (what, true) := by rw [HF.out, if_pos ⟨rfl, hw⟩]
      subst e
      clear HF fin
      rcases hw with rfl | rfl
      · go_wp2_with fail
        go_ret2
        exact ⟨rfl, HK1.out⟩
      · cases k
        · go_wp2_with fail
          go_ret2
          exact ⟨rfl, HK1.out⟩
        · go_wp2_with fail
          go_ret2
          exact ⟨rfl, HK1.out⟩
    · simp only [not_or] at hw
      obtain ⟨h1, h2⟩ := hw
      obtain rfl : k = true := by simpa using h1
      have h2b : (what == 2) = false := by simpa using h2
      by_cases h3 : p = U ∧ what ≠ 3
      · obtain ⟨rfl, h3⟩ := h3
        have e : R = (4, true) := by rw [HF.out, if_neg (by simp [h2]), if_pos ⟨rfl, rfl, h3⟩]
        subst e
        have h3b : (what == 3) = false := by simpa using h3
        clear HF fin h1
        go_wp2_with fail
        go_ret2
        exact ⟨rfl, HK1.out⟩
      · have e : R = (0, false) := by rw [HF.out, if_neg (by simp [h2]), if_neg (by simpa using h3)]
        subst e
        clear HF fin h1
        by_cases hu : p = U
        · subst hu
          obtain rfl : what = 3 := by simpa using h3
          clear h3
          go_wp2_with fail
          go_ret2
          exact ⟨rfl, HK1.out⟩
        · have hub : (p == U) = false := by simpa using hu
          clear h3
          go_wp2_with fail
          go_ret2
          exact ⟨rfl, HK1.out⟩
  · have hpb : (p == s) = false := by simpa using hp
    by_cases h3 : k = true ∧ p = U ∧ what ≠ 3
    · obtain ⟨rfl, rfl, h3⟩ := h3
      have e : R = (4, true) := by rw [HF.out, if_neg (by simp [hp]), if_pos ⟨rfl, rfl, h3⟩]
      subst e
      have h3b : (what == 3) = false := by simpa using h3
      clear HF fin
      go_wp2_with fail
      go_ret2
      exact ⟨rfl, HK1.out⟩
    · have e : R = (0, false) := by rw [HF.out, if_neg (by simp [hp]), if_neg (by simpa using h3)]
      subst e
      clear HF fin
      cases k
      · clear h3
        go_wp2_with fail
        go_ret2
        exact ⟨rfl, HK1.out⟩
      · by_cases hu : p = U
        · subst hu
          obtain rfl : what = 3 := by simpa using h3
          clear h3
          go_wp2_with fail
          go_ret2
          exact ⟨rfl, HK1.out⟩
        · have hub : (p == U) = false := by simpa using hu
          clear h3
          go_wp2_with fail
          go_ret2
          exact ⟨rfl, HK1.out⟩
end

section
set_option linter.unusedVariables false
set_option linter.unusedSimpArgs false
open Go.RowKit

set_option maxRecDepth 100000 in
theorem drop1_watch {g w : World} {L : List Asn} (x : WatT) (sess : Int) {sb : Nat} (S : Sat g w (cellsA sb 3 #[.int .i64 sess] :: L)) :
    Calls Tryz.prog 92 #[watV x, ptr sb] w fun e w' => e = .returned (.bool (decide (x.session = sess))) ∧ Keeps (fun _ => False) w w' := by
  have HK := hide ((Keeps.refl (fun _ => False) w).alloc (.cells #[.int .i64 x.session, .string (Go.Proofs.YtanlobdidjednaaGreatDoor.S x.path), .bool x.kids, .bool x.once] 126))
  obtain ⟨ss, p, k, o⟩ := x
  by_cases h : ss = sess
  · subst h
    go_enter Tryz.func92, Tryz.ntmps92
    go_upto_region 1 with fail
    have S1 := S.box #[.int .i64 ss, .string (Go.Proofs.YtanlobdidjednaaGreatDoor.S p), .bool k, .bool o] 126 rfl
    generalize w.alloc (.cells #[.int .i64 ss, .string (Go.Proofs.YtanlobdidjednaaGreatDoor.S p), .bool k, .bool o] 126) = wB at *
    generalize w.heap.size = xb at *
    have x0 := S1.cell 0 _ rfl
    have x1 := S1.cell 1 _ rfl
    have x2 := S1.cell 2 _ rfl
    have x3 := S1.cell 3 _ rfl
    have c0 := S1.p1.cell 0 _ rfl
    clear S1
    go_wp2_with fail
    go_ret
    exact ⟨by simp, HK.out⟩
  · have hb : (ss == sess) = false := by simpa using h
    rw [show decide ((⟨ss, p, k, o⟩ : WatT).session = sess) = false from by simpa using h]
    go_enter Tryz.func92, Tryz.ntmps92
    go_upto_region 1 with fail
    have S1 := S.box #[.int .i64 ss, .string (Go.Proofs.YtanlobdidjednaaGreatDoor.S p), .bool k, .bool o] 126 rfl
    generalize w.alloc (.cells #[.int .i64 ss, .string (Go.Proofs.YtanlobdidjednaaGreatDoor.S p), .bool k, .bool o] 126) = wB at *
    generalize w.heap.size = xb at *
    have x0 := S1.cell 0 _ rfl
    have x1 := S1.cell 1 _ rfl
    have x2 := S1.cell 2 _ rfl
    have x3 := S1.cell 3 _ rfl
    have c0 := S1.p1.cell 0 _ rfl
    clear S1
    go_wp2_with fail
    go_ret
    exact ⟨by simp, HK.out⟩

set_option maxRecDepth 100000 in
theorem drop2_watch {g w : World} {L : List Asn} (x : EvT) (sess : Int) {sb : Nat} (S : Sat g w (cellsA sb 3 #[.int .i64 sess] :: L)) :
    Calls Tryz.prog 93 #[evV x, ptr sb] w fun e w' => e = .returned (.bool (decide (x.session = sess))) ∧ Keeps (fun _ => False) w w' := by
  have HK := hide ((Keeps.refl (fun _ => False) w).alloc (.cells #[.int .i64 x.session, .int .i64 x.no, .string (Go.Proofs.YtanlobdidjednaaGreatDoor.S x.path), .int .i64 x.what, .int .i64 x.when_] 95))
  obtain ⟨ss, n, p, k, o⟩ := x
  by_cases h : ss = sess
  · subst h
    go_enter Tryz.func93, Tryz.ntmps93
    go_upto_region 1 with fail
    have S1 := S.box #[.int .i64 ss, .int .i64 n, .string (Go.Proofs.YtanlobdidjednaaGreatDoor.S p), .int .i64 k, .int .i64 o] 95 rfl
    generalize w.alloc (.cells #[.int .i64 ss, .int .i64 n, .string (Go.Proofs.YtanlobdidjednaaGreatDoor.S p), .int .i64 k, .int .i64 o] 95) = wB at *
    generalize w.heap.size = xb at *
    have x0 := S1.cell 0 _ rfl
    have x1 := S1.cell 1 _ rfl
    have x2 := S1.cell 2 _ rfl
    have x3 := S1.cell 3 _ rfl
    have x4 := S1.cell 4 _ rfl
    have c0 := S1.p1.cell 0 _ rfl
    clear S1
    go_wp2_with fail
    go_ret
    exact ⟨by simp, HK.out⟩
  · have hb : (ss == sess) = false := by simpa using h
    rw [show decide ((⟨ss, n, p, k, o⟩ : EvT).session = sess) = false from by simpa using h]
    go_enter Tryz.func93, Tryz.ntmps93
    go_upto_region 1 with fail
    have S1 := S.box #[.int .i64 ss, .int .i64 n, .string (Go.Proofs.YtanlobdidjednaaGreatDoor.S p), .int .i64 k, .int .i64 o] 95 rfl
    generalize w.alloc (.cells #[.int .i64 ss, .int .i64 n, .string (Go.Proofs.YtanlobdidjednaaGreatDoor.S p), .int .i64 k, .int .i64 o] 95) = wB at *
    generalize w.heap.size = xb at *
    have x0 := S1.cell 0 _ rfl
    have x1 := S1.cell 1 _ rfl
    have x2 := S1.cell 2 _ rfl
    have x3 := S1.cell 3 _ rfl
    have x4 := S1.cell 4 _ rfl
    have c0 := S1.p1.cell 0 _ rfl
    clear S1
    go_wp2_with fail
    go_ret
    exact ⟨by simp, HK.out⟩

set_option maxRecDepth 100000 in
theorem noted1_watch {g w : World} {L : List Asn} (x : EvT) (sess no : Int) {sb nb : Nat} (S : Sat g w (cellsA sb 3 #[.int .i64 sess] :: cellsA nb 3 #[.int .i64 no] :: L)) :
    Calls Tryz.prog 74 #[evV x, ptr sb, ptr nb] w fun e w' => e = .returned (.bool (decide (x.session = sess ∧ x.no ≤ no))) ∧ Keeps (fun _ => False) w w' := by
  have HK := hide ((Keeps.refl (fun _ => False) w).alloc (.cells #[.int .i64 x.session, .int .i64 x.no, .string (Go.Proofs.YtanlobdidjednaaGreatDoor.S x.path), .int .i64 x.what, .int .i64 x.when_] 95))
  obtain ⟨ss, n, p, k, o⟩ := x
  by_cases h : ss = sess
  · subst h
    by_cases h2 : n ≤ no
    · rw [show decide ((⟨ss, n, p, k, o⟩ : EvT).session = ss ∧ (⟨ss, n, p, k, o⟩ : EvT).no ≤ no) = true from by simpa using h2]
      go_enter Tryz.func74, Tryz.ntmps74
      go_upto_region 1 with fail
      have S1 := S.box #[.int .i64 ss, .int .i64 n, .string (Go.Proofs.YtanlobdidjednaaGreatDoor.S p), .int .i64 k, .int .i64 o] 95 rfl
      generalize w.alloc (.cells #[.int .i64 ss, .int .i64 n, .string (Go.Proofs.YtanlobdidjednaaGreatDoor.S p), .int .i64 k, .int .i64 o] 95) = wB at *
      generalize w.heap.size = xb at *
      have x0 := S1.cell 0 _ rfl
      have x1 := S1.cell 1 _ rfl
      have x2 := S1.cell 2 _ rfl
      have x3 := S1.cell 3 _ rfl
      have x4 := S1.cell 4 _ rfl
      have c0 := S1.p1.cell 0 _ rfl
      have c1 := S1.p2.cell 0 _ rfl
      clear S1
      go_wp2_with fail
      go_ret
      exact ⟨by simp, HK.out⟩
    · rw [show decide ((⟨ss, n, p, k, o⟩ : EvT).session = ss ∧ (⟨ss, n, p, k, o⟩ : EvT).no ≤ no) = false from by simpa using h2]
      go_enter Tryz.func74, Tryz.ntmps74
      go_upto_region 1 with fail
      have S1 := S.box #[.int .i64 ss, .int .i64 n, .string (Go.Proofs.YtanlobdidjednaaGreatDoor.S p), .int .i64 k, .int .i64 o] 95 rfl
      generalize w.alloc (.cells #[.int .i64 ss, .int .i64 n, .string (Go.Proofs.YtanlobdidjednaaGreatDoor.S p), .int .i64 k, .int .i64 o] 95) = wB at *
      generalize w.heap.size = xb at *
      have x0 := S1.cell 0 _ rfl
      have x1 := S1.cell 1 _ rfl
      have x2 := S1.cell 2 _ rfl
      have x3 := S1.cell 3 _ rfl
      have x4 := S1.cell 4 _ rfl
      have c0 := S1.p1.cell 0 _ rfl
      have c1 := S1.p2.cell 0 _ rfl
      clear S1
      go_wp2_with fail
      go_ret
      exact ⟨by simp, HK.out⟩
  · have hb : (ss == sess) = false := by simpa using h
    rw [show decide ((⟨ss, n, p, k, o⟩ : EvT).session = sess ∧ (⟨ss, n, p, k, o⟩ : EvT).no ≤ no) = false from by simp [h]]
    go_enter Tryz.func74, Tryz.ntmps74
    go_upto_region 1 with fail
    have S1 := S.box #[.int .i64 ss, .int .i64 n, .string (Go.Proofs.YtanlobdidjednaaGreatDoor.S p), .int .i64 k, .int .i64 o] 95 rfl
    generalize w.alloc (.cells #[.int .i64 ss, .int .i64 n, .string (Go.Proofs.YtanlobdidjednaaGreatDoor.S p), .int .i64 k, .int .i64 o] 95) = wB at *
    generalize w.heap.size = xb at *
    have x0 := S1.cell 0 _ rfl
    have x1 := S1.cell 1 _ rfl
    have x2 := S1.cell 2 _ rfl
    have x3 := S1.cell 3 _ rfl
    have x4 := S1.cell 4 _ rfl
    have c0 := S1.p1.cell 0 _ rfl
    have c1 := S1.p2.cell 0 _ rfl
    clear S1
    go_wp2_with fail
    go_ret
    exact ⟨by simp, HK.out⟩
end

section
set_option linter.unusedVariables false
set_option linter.unusedSimpArgs false
open Go.RowKit

set_option maxRecDepth 100000 in
set_option maxHeartbeats 4000000 in
theorem events_book {g w : World} {L : List Asn} {b : Nat} {B : BookT} (S : Sat g w (bookA b B :: L)) (hl : B.es.length ≤ 1000000) (sess : Int) :
    Calls Tryz.prog 69 #[ptr b, .int .i64 sess] w fun e w' => ∃ v, e = .returned v ∧ Sat g w' (rowA 95 5 v (B.es.filter fun x => decide (x.session = sess)).length ((B.es.filter fun x => decide (x.session = sess)).flatMap evC) :: bookA b B :: L) := by
  obtain ⟨wv, S1⟩ := S.bookOpen
  obtain ⟨ev, m, S2⟩ := S1.notesOpen
  clear S S1
  obtain ⟨ws, es, nos⟩ := B
  simp only at hl S2 ⊢
  obtain ⟨A, c, rfl, -⟩ := S2.p1.row.form
  have c1 : w.cell? ⟨b, 1, none⟩ = some (.slice A es.length c) := S2.cell 1 _ rfl
  have HF : Hid (∀ k x, es[k]? = some x → (es.take (k + 1)).filter (fun x => decide (x.session = sess)) = (es.take k).filter (fun x => decide (x.session = sess)) ++ if x.session = sess then [x] else []) := hide fun k x h => by
    obtain ⟨hk, rfl⟩ := List.getElem?_eq_some_iff.1 h
    rw [List.take_succ_eq_append_getElem hk, List.filter_append]
    congr 1
    by_cases h1 : es[k].session = sess <;> simp [h1]
  have HLE : Hid (∀ k, ((es.take k).filter (fun x => decide (x.session = sess))).length ≤ 1000000) := hide fun k => by
    have h1 := List.length_filter_le (fun x => decide (EvT.session x = sess)) (es.take k)
    have h2 := List.length_take_le k es
    have h3 : (es.take k).length ≤ es.length := by simp; omega
    omega
  go_enter Tryz.func69, Tryz.ntmps69
  go_wp2_with fail
  go_loopw [5, 15] (fun v i wr => ∃ k : Nat, k ≤ es.length ∧ i = .int .i64 k ∧ Sat g wr (rowA 95 5 v ((es.take k).filter fun x => decide (x.session = sess)).length (((es.take k).filter fun x => decide (x.session = sess)).flatMap evC) :: cellsA b 118 #[wv, .slice A es.length c, .map (some m)] :: rowA 95 5 (.slice A es.length c) es.length (es.flatMap evC) :: mapA kW kW m nos :: rowA 126 4 wv ws.length (ws.flatMap watC) :: L)) (fun _ i _ => es.length - (RowKit.intOf i).toNat)
  case atStart => exact ⟨0, by omega, rfl, by simpa using S2.nilRow _ _⟩
  case round =>
    obtain ⟨k, hk, rfl, S3⟩ := hrel
    by_cases hlt : k < es.length
    · obtain ⟨ad, x, rfl, hx, d0, d1, d2, d3, d4⟩ := ev_at S3.p2.srcR hlt
      have hf := HF.out k x hx
      have HF2 := hide hf
      clear hf S2 c1
      obtain ⟨ss, no, p, wh, wn⟩ := x
      have hk0 : (0 : Int) ≤ (k : Int) := by omega
      have hk1 : (k : Int) < (es.length : Int) := by omega
      obtain ⟨B2, c2, rfl, -⟩ := S3.row.form
      have hle := HLE.out k
      generalize hFL : (es.take k).filter (fun x => decide (x.session = sess)) = FL at *
      clear hFL
      simp only at d0 d1 d2 d3 d4 HF2
      by_cases hs : ss = sess
      · subst hs
        rw [if_pos rfl] at HF2
        go_upto_region 6 with fail
        have S4 := S3.box #[.int .i64 ss, .int .i64 no, .string (Go.Proofs.YtanlobdidjednaaGreatDoor.S p), .int .i64 wh, .int .i64 wn] 95 rfl
        generalize wr.alloc (.cells #[.int .i64 ss, .int .i64 no, .string (Go.Proofs.YtanlobdidjednaaGreatDoor.S p), .int .i64 wh, .int .i64 wn] 95) = w4 at *
        generalize wr.heap.size = xb at *
        have x0 := S4.cell 0 _ rfl
        have x1 := S4.cell 1 _ rfl
        have x2 := S4.cell 2 _ rfl
        have x3 := S4.cell 3 _ rfl
        have x4 := S4.cell 4 _ rfl
        clear S3 d0 d1 d2 d3 d4
        go_wp2_with (at_builtin; refine wpList_sapp slV rfl (.tmp 23) (.tmp 25) rfl (g := g) (S := (S4.box #[.int .i64 ss, .int .i64 no, .string (Go.Proofs.YtanlobdidjednaaGreatDoor.S p), .int .i64 wh, .int .i64 wn] 95 rfl).p2) rfl (Src.block (heap_alloc_new _ _) 5 1 rfl) rfl (by simp [Value.oneCell']) (by unfold maxLen; omega) (by omega) ?_; intro A5 c5 w5 S5)
        go_roundw
        case rel =>
          refine ⟨k + 1, by omega, by go_num, ?_⟩
          rw [HF2.out]
          have S6 := S5.p1.drop.p1.drop
          simpa [evC] using S6
        case measure => simp [RowKit.intOf]; omega
      · have hsb : (ss == sess) = false := by simpa using hs
        rw [if_neg hs, List.append_nil] at HF2
        go_wp2_with fail
        go_roundw
        case rel =>
          refine ⟨k + 1, by omega, by go_num, ?_⟩
          rw [HF2.out]
          exact (S3.box _ _ rfl).drop
        case measure => simp [RowKit.intOf]; omega
    · obtain rfl : k = es.length := by omega
      rw [List.take_length] at S3
      go_wp2_with fail
      go_ret
      refine ⟨_, rfl, ?_⟩
      exact (Sat.bookShut (B := ⟨ws, es, nos⟩) (Sat.notesShut S3.b4)).p1
theorem events_nil (w : World) (sess : Int) : Calls Tryz.prog 69 #[.pointer none, .int .i64 sess] w fun e w' => e = .returned (.slice none 0 0) ∧ Keeps (fun _ => False) w w' := by
  go_enter Tryz.func69, Tryz.ntmps69
  go_wp2_with fail
  go_ret
  exact ⟨rfl, Keeps.refl _ _⟩
end

section
set_option linter.unusedVariables false
set_option linter.unusedSimpArgs false
open Go.RowKit

def notedF (B : BookT) (sess no : Int) : BookT := { B with es := B.es.filter fun x => !decide (x.session = sess ∧ x.no ≤ no) }
def dropF (B : BookT) (sess : Int) : BookT := ⟨B.ws.filter fun x => !decide (x.session = sess), B.es.filter fun x => !decide (x.session = sess), mdel B.nos sess⟩

theorem eg_noted (args : Array Value) (w : World) : (callFunc 74 args).run Tryz.prog w = .ok (.enter 74 args) w := by kernel_rfl

set_option maxRecDepth 100000 in
set_option maxHeartbeats 4000000 in
theorem noted_book {g w : World} {L : List Asn} {b : Nat} {B : BookT} (S : Sat g w (bookA b B :: L)) (hl : B.es.length ≤ 1000000) (sess no : Int) :
    Calls Tryz.prog 63 #[ptr b, .int .i64 sess, .int .i64 no] w fun e w' => e = .returned (.tuple #[]) ∧ Sat g w' (bookA b (notedF B sess no) :: L) := by
  obtain ⟨wv, S1⟩ := S.bookOpen
  obtain ⟨ev, m, S2⟩ := S1.notesOpen
  clear S S1
  obtain ⟨ws, es, nos⟩ := B
  simp only at hl S2
  obtain ⟨A, c, rfl, -⟩ := S2.p1.row.form
  go_enter Tryz.func63, Tryz.ntmps63
  go_upto_region 1 with fail
  have S3 := (S2.box #[.int .i64 sess] 3 rfl).box #[.int .i64 no] 3 (b := w.heap.size + 1) (by simp)
  generalize (w.alloc (.cells #[.int .i64 sess] 3)).alloc (.cells #[.int .i64 no] 3) = w3 at *
  generalize w.heap.size = sb at *
  have c1 : w3.cell? ⟨b, 1, none⟩ = some (.slice A es.length c) := S3.p2.cell 1 _ rfl
  have S4 : Sat g w3 (rowA 95 5 (.slice A es.length c) es.length (es.flatMap evC) :: cellsA sb 3 #[.int .i64 sess] :: cellsA (sb + 1) 3 #[.int .i64 no] :: cellsA b 118 #[wv, .slice A es.length c, .map (some m)] :: mapA kW kW m nos :: rowA 126 4 wv ws.length (ws.flatMap watC) :: L) := S3.p1.p3
  have hdel := del_ev (p := fun x => decide (x.session = sess ∧ x.no ≤ no)) (gF := 74) (lb := #[ptr sb, ptr (sb + 1)]) (I := fun _ => cellsA sb 3 #[.int .i64 sess] :: cellsA (sb + 1) 3 #[.int .i64 no] :: cellsA b 118 #[wv, .slice A es.length c, .map (some m)] :: mapA kW kW m nos :: rowA 126 4 wv ws.length (ws.flatMap watC) :: L)
    (fun k x A w' _ S' => (noted1_watch x sess no S'.b2).mono fun e w2 h => ⟨h.1, S'.keep h.2⟩) eg_noted S4 hl
  have HD := hide hdel
  clear hdel S4 S3 S2
  go_wp2_with fail
  refine HD.out.mono ?_
  rintro e w4 ⟨v', rfl, S5⟩
  generalize hes2 : es.filter (fun x => !decide (x.session = sess ∧ x.no ≤ no)) = es2 at *
  have HE := hide hes2
  clear hes2 HD
  obtain ⟨A6, c6, rfl, -⟩ := S5.row.form
  have S6 := S5.p3
  have hf := S6.cells_fz 1
  have hc := S6.cell 1 _ rfl
  go_wp2_with fail
  go_end0
  refine ⟨rfl, ?_⟩
  rw [show notedF ⟨ws, es, nos⟩ sess no = ⟨ws, es2, nos⟩ from by rw [← HE.out]; rfl]
  exact Sat.bookShut (B := ⟨ws, es2, nos⟩) (Sat.notesShut (((S6.setc 1 _).p2.drop).p2.drop))

theorem eg_drop1 (args : Array Value) (w : World) : (callFunc 92 args).run Tryz.prog w = .ok (.enter 92 args) w := by kernel_rfl
theorem eg_drop2 (args : Array Value) (w : World) : (callFunc 93 args).run Tryz.prog w = .ok (.enter 93 args) w := by kernel_rfl

set_option maxRecDepth 100000 in
set_option maxHeartbeats 4000000 in
theorem drop_book {g w : World} {L : List Asn} {b : Nat} {B : BookT} (S : Sat g w (bookA b B :: L)) (hl : B.es.length ≤ 1000000) (hl2 : B.ws.length ≤ 1000000) (sess : Int) :
    Calls Tryz.prog 78 #[ptr b, .int .i64 sess] w fun e w' => e = .returned (.tuple #[]) ∧ Sat g w' (bookA b (dropF B sess) :: L) := by
  obtain ⟨wv, S1⟩ := S.bookOpen
  obtain ⟨ev, m, S2⟩ := S1.notesOpen
  clear S S1
  obtain ⟨ws, es, nos⟩ := B
  simp only at hl hl2 S2
  obtain ⟨A, c, rfl, -⟩ := S2.p1.row.form
  obtain ⟨A1, c1, rfl, -⟩ := S2.p3.row.form
  go_enter Tryz.func78, Tryz.ntmps78
  go_upto_region 1 with fail
  have S3 := S2.box #[.int .i64 sess] 3 rfl
  generalize w.alloc (.cells #[.int .i64 sess] 3) = w3 at *
  generalize w.heap.size = sb at *
  have d0 : w3.cell? ⟨b, 0, none⟩ = some (.slice A1 ws.length c1) := S3.p1.cell 0 _ rfl
  have S4 : Sat g w3 (rowA 126 4 (.slice A1 ws.length c1) ws.length (ws.flatMap watC) :: cellsA sb 3 #[.int .i64 sess] :: cellsA b 118 #[.slice A1 ws.length c1, .slice A es.length c, .map (some m)] :: rowA 95 5 (.slice A es.length c) es.length (es.flatMap evC) :: mapA kW kW m nos :: L) := S3.p4
  have hdel := del_wat (p := fun x => decide (x.session = sess)) (gF := 92) (lb := #[ptr sb]) (I := fun _ => cellsA sb 3 #[.int .i64 sess] :: cellsA b 118 #[.slice A1 ws.length c1, .slice A es.length c, .map (some m)] :: rowA 95 5 (.slice A es.length c) es.length (es.flatMap evC) :: mapA kW kW m nos :: L)
    (fun k x A w' _ S' => (drop1_watch x sess S'.p1).mono fun e w2 h => ⟨h.1, S'.keep h.2⟩) eg_drop1 S4 hl2
  have HD := hide hdel
  clear hdel S4 S3 S2
  go_wp2_with fail
  refine HD.out.mono ?_
  rintro e w4 ⟨v', rfl, S5⟩
  clear HD d0
  generalize hws2 : ws.filter (fun x => !decide (x.session = sess)) = ws2 at *
  have HW := hide hws2
  clear hws2
  obtain ⟨A6, c6, rfl, -⟩ := S5.row.form
  have S6 := S5.p2
  have hf := S6.cells_fz 0
  have hc := S6.cell 0 _ rfl
  go_upto_region 3 with fail
  have S7 := S6.setc 0 (.slice A6 ws2.length c6)
  generalize w4.setCell ⟨b, 0, none⟩ (.slice A6 ws2.length c6) = w7 at *
  have S8 : Sat g w7 (rowA 95 5 (.slice A es.length c) es.length (es.flatMap evC) :: cellsA sb 3 #[.int .i64 sess] :: cellsA b 118 #[.slice A6 ws2.length c6, .slice A es.length c, .map (some m)] :: rowA 126 4 (.slice A6 ws2.length c6) ws2.length (ws2.flatMap watC) :: mapA kW kW m nos :: L) := S7.p2.p2.b2.p3
  clear S7 S6 S5 hf hc
  have d1 : w7.cell? ⟨b, 1, none⟩ = some (.slice A es.length c) := S8.p2.cell 1 _ rfl
  have hdel := del_ev (p := fun x => decide (x.session = sess)) (gF := 93) (lb := #[ptr sb]) (I := fun _ => cellsA sb 3 #[.int .i64 sess] :: cellsA b 118 #[.slice A6 ws2.length c6, .slice A es.length c, .map (some m)] :: rowA 126 4 (.slice A6 ws2.length c6) ws2.length (ws2.flatMap watC) :: mapA kW kW m nos :: L)
    (fun k x A w' _ S' => (drop2_watch x sess S'.p1).mono fun e w2 h => ⟨h.1, S'.keep h.2⟩) eg_drop2 S8 hl
  have HD := hide hdel
  clear hdel S8
  go_wp2_with fail
  refine HD.out.mono ?_
  rintro e w9 ⟨v', rfl, S9⟩
  clear HD d1
  generalize hes2 : es.filter (fun x => !decide (x.session = sess)) = es2 at *
  have HE := hide hes2
  clear hes2
  obtain ⟨A9, c9, rfl, -⟩ := S9.row.form
  have S6 := S9.p2
  have hf := S6.cells_fz 1
  have hc := S6.cell 1 _ rfl
  go_upto_region 4 with fail
  have S7 := S6.setc 1 (.slice A9 es2.length c9)
  generalize w9.setCell ⟨b, 1, none⟩ (.slice A9 es2.length c9) = wa at *
  have S8 : Sat g wa (cellsA b 118 #[.slice A6 ws2.length c6, .slice A9 es2.length c9, .map (some m)] :: rowA 95 5 (.slice A9 es2.length c9) es2.length (es2.flatMap evC) :: cellsA sb 3 #[.int .i64 sess] :: rowA 126 4 (.slice A6 ws2.length c6) ws2.length (ws2.flatMap watC) :: mapA kW kW m nos :: L) := S7
  clear S7 S6 S9 hf hc
  have S9 := S8.drew
  have z0 : wa.drew.cell? ⟨b, 2, none⟩ = some (.map (some m)) := S9.cell 2 _ rfl
  have z1 : wa.drew.cell? ⟨sb, 0, none⟩ = some (.int .i64 sess) := S9.p2.cell 0 _ rfl
  obtain ⟨wd, hde, hm2, hk2⟩ := S9.p4.mapOf.delete (ty := 0) (t2 := 3) kWT Tryz.underlying115 sess
  have hde' : ∀ ty, (Builtin.delete_ #[115, 3] ty #[.map (some m), .int .i64 sess]).run Tryz.prog wa.drew = .ok (.tuple #[]) wd := fun _ => hde
  have S10 := S9.p4.mapPut hk2 hm2
  have y0 : wa.cell? ⟨b, 2, none⟩ = some (.map (some m)) := S8.cell 2 _ rfl
  have y1 : wa.cell? ⟨sb, 0, none⟩ = some (.int .i64 sess) := S8.p2.cell 0 _ rfl
  clear hde hm2 hk2 S9 S8
  go_still_tail 5, (by kernel_rfl)
  change wpList _ _ _ _ _ wa.drew
  go_wp2_with fail
  go_end0
  refine ⟨rfl, ?_⟩
  rw [show dropF ⟨ws, es, nos⟩ sess = ⟨ws2, es2, mdel nos sess⟩ from by rw [← HE.out, ← HW.out]; rfl]
  exact Sat.bookShut (B := ⟨ws2, es2, mdel nos sess⟩) (Sat.notesShut (S10.p3.drop).b2)
end

section
set_option linter.unusedVariables false
set_option linter.unusedSimpArgs false
open Go.RowKit

abbrev Nts := List EvT × List (Int × Int)
def noteF (s : List UInt8) (what when_ : Int) (st : Nts) (x : WatT) : Nts :=
  if (hearsF x s what).2 = true then (st.1 ++ [⟨x.session, (mget st.2 x.session).getD 0 + 1, x.path, (hearsF x s what).1, when_⟩], mput st.2 x.session ((mget st.2 x.session).getD 0 + 1)) else st
def firesP (s : List UInt8) (what : Int) (x : WatT) : Bool := (hearsF x s what).2 && x.once
def fireF (B : BookT) (s : List UInt8) (what when_ : Int) : BookT :=
  ⟨B.ws.filter fun x => !firesP s what x, (B.ws.foldl (noteF s what when_) (B.es, B.nos)).1, (B.ws.foldl (noteF s what when_) (B.es, B.nos)).2⟩

theorem look_no {g w : World} {L : List Asn} {m : Nat} {nos : List (Int × Int)} (S : Sat g w (mapA kW kW m nos :: L)) (k : Int) :
    (Instr.lookup 115 (.map (some m)) (.int .i64 k) false).run Tryz.prog w = .ok (.int .i64 ((mget nos k).getD 0)) w := by
  cases h : mget nos k with
  | none => exact S.mapOf.look_none kWT Tryz.underlying115 h (z := .int .i64 0) (by kernel_rfl) false
  | some v => exact S.mapOf.look_some kWT Tryz.underlying115 h false

set_option maxRecDepth 100000 in
set_option maxHeartbeats 4000000 in
theorem fire1_watch {g w : World} {L : List Asn} {b sb wb bb nb : Nat} {wv : Value} {es : List EvT} {nos : List (Int × Int)} {s : List UInt8} {what when_ : Int}
    (S : Sat g w (notesA b wv es nos :: cellsA sb 9 #[.string (S s)] :: cellsA wb 93 #[.int .i64 what] :: cellsA bb 76 #[ptr b] :: cellsA nb 3 #[.int .i64 when_] :: L))
    (x : WatT) (hs : s.length ≤ 140737488355328) (hl : es.length ≤ 1000000) (hno : 0 ≤ (mget nos x.session).getD 0 ∧ (mget nos x.session).getD 0 ≤ 1000000000000) :
    Calls Tryz.prog 90 #[watV x, ptr sb, ptr wb, ptr bb, ptr nb] w fun e w' => e = .returned (.bool (firesP s what x)) ∧
      Sat g w' (notesA b wv (noteF s what when_ (es, nos) x).1 (noteF s what when_ (es, nos) x).2 :: cellsA sb 9 #[.string (Go.Proofs.YtanlobdidjednaaGreatDoor.S s)] :: cellsA wb 93 #[.int .i64 what] :: cellsA bb 76 #[ptr b] :: cellsA nb 3 #[.int .i64 when_] :: L) := by
  obtain ⟨ev, m, S2⟩ := S.notesOpen
  obtain ⟨A, c, rfl, -⟩ := S2.p1.row.form
  clear S
  have HH : Hid (∀ w, Calls Tryz.prog 91 #[watV x, .string (Go.Proofs.YtanlobdidjednaaGreatDoor.S s), .int .i64 what] w fun e w' => e = .returned (.tuple #[.int .i64 (hearsF x s what).1, .bool (hearsF x s what).2]) ∧ Keeps (fun _ => False) w w') := fun w => hears_watch w x s what hs
  have HP : Hid (firesP s what x = ((hearsF x s what).2 && x.once)) := rfl
  have HN : Hid (noteF s what when_ (es, nos) x = if (hearsF x s what).2 = true then (es ++ [⟨x.session, (mget nos x.session).getD 0 + 1, x.path, (hearsF x s what).1, when_⟩], mput nos x.session ((mget nos x.session).getD 0 + 1)) else (es, nos)) := rfl
  generalize noteF s what when_ (es, nos) x = NT at *
  generalize firesP s what x = FP at *
  generalize (hearsF x s what).1 = x1 at *
  generalize (hearsF x s what).2 = x2 at *
  obtain ⟨ss, p, kd, on⟩ := x
  simp only at hno HN HP
  obtain ⟨hno0, hno1⟩ := hno
  go_enter Tryz.func90, Tryz.ntmps90
  go_upto_region 1 with fail
  have S3 := S2.box #[.int .i64 ss, .string (Go.Proofs.YtanlobdidjednaaGreatDoor.S p), .bool kd, .bool on] 126 rfl
  generalize w.alloc (.cells #[.int .i64 ss, .string (Go.Proofs.YtanlobdidjednaaGreatDoor.S p), .bool kd, .bool on] 126) = w3 at *
  generalize w.heap.size = xb at *
  have a0 := S3.cell 0 _ rfl
  have a1 := S3.cell 1 _ rfl
  have a2 := S3.cell 2 _ rfl
  have a3 := S3.cell 3 _ rfl
  have b0 := S3.p4.cell 0 _ rfl
  have b1 := S3.p5.cell 0 _ rfl
  clear S2
  go_wp2_with fail
  refine (HH.out _).mono ?_
  rintro e w4 ⟨rfl, hk4⟩
  have S4 := S3.keep hk4
  clear S3 a0 a1 a2 a3 b0 b1 HH hk4
  cases x2
  · have e1 : NT = (es, nos) := by rw [HN.out]; rfl
    have e2 : FP = false := by rw [HP.out]; rfl
    subst e1 e2
    go_wp2_with fail
    go_ret
    exact ⟨rfl, Sat.notesShut S4.drop⟩
  · have e1 : NT = (es ++ [⟨ss, (mget nos ss).getD 0 + 1, p, x1, when_⟩], mput nos ss ((mget nos ss).getD 0 + 1)) := by rw [HN.out, if_pos rfl]
    have e2 : FP = on := by rw [HP.out]; rfl
    subst e1 e2
    clear HN HP
    generalize hn0 : (mget nos ss).getD 0 = n0 at *
    have HN0 := hide hn0
    clear hn0
    go_upto_region 4 with fail
    have S5 := S4.drew
    have a0 := S4.cell 0 _ rfl
    have b0 := S4.p1.cell 2 _ rfl
    have b1 := S4.p6.cell 0 _ rfl
    have a0' := S5.cell 0 _ rfl
    have b0' := S5.p1.cell 2 _ rfl
    have b1' := S5.p6.cell 0 _ rfl
    have hlk := look_no S4.p3 ss
    have hlk' := look_no S5.p3 ss
    rw [HN0.out] at hlk hlk'
    have hw1 : IntKind.i64.wrap (n0 + 1) = n0 + 1 := IntWalk.i64_in _ ⟨by omega, by omega⟩
    obtain ⟨w6, hup, hm6, hk6⟩ := S5.p3.mapOf.update kWT Tryz.underlying115 ss (n0 + 1)
    have hup' : (Instr.mapUpdate 115 (.map (some m)) (.int .i64 ss) (.int .i64 (n0 + 1))).run Tryz.prog w4.drew = .ok () w6 := hup
    have S6 := S5.p3.mapPut hk6 hm6
    clear hup hm6 hk6 S5
    go_still_tail 8, (by kernel_rfl)
    change wpList _ _ _ _ _ w4.drew
    go_upto_region 5 with fail
    clear hlk hlk' b0 b0' b1 b1' a0 a0' hup' S4
    have S7 : Sat g w6 (cellsA b 118 #[wv, .slice A es.length c, .map (some m)] :: rowA 95 5 (.slice A es.length c) es.length (es.flatMap evC) :: mapA kW kW m (mput nos ss (n0 + 1)) :: cellsA xb 126 #[.int .i64 ss, .string (Go.Proofs.YtanlobdidjednaaGreatDoor.S p), .bool kd, .bool FP] :: cellsA sb 9 #[.string (Go.Proofs.YtanlobdidjednaaGreatDoor.S s)] :: cellsA wb 93 #[.int .i64 what] :: cellsA bb 76 #[ptr b] :: cellsA nb 3 #[.int .i64 when_] :: L) := S6.p3.p3
    have HS : Hid (∀ (w' : World) (ev' : Value), Sat g w' (cellsA b 118 #[wv, ev', .map (some m)] :: mapA kW kW m (mput nos ss (n0 + 1)) :: cellsA xb 126 #[.int .i64 ss, .string (Go.Proofs.YtanlobdidjednaaGreatDoor.S p), .bool kd, .bool FP] :: cellsA sb 9 #[.string (Go.Proofs.YtanlobdidjednaaGreatDoor.S s)] :: cellsA wb 93 #[.int .i64 what] :: cellsA bb 76 #[ptr b] :: cellsA nb 3 #[.int .i64 when_] :: L) → w'.cell? ⟨bb, 0, none⟩ = some (ptr b) ∧ w'.cell? ⟨b, 2, none⟩ = some (.map (some m)) ∧ w'.cell? ⟨xb, 0, none⟩ = some (.int .i64 ss) ∧ w'.cell? ⟨xb, 1, none⟩ = some (.string (Go.Proofs.YtanlobdidjednaaGreatDoor.S p)) ∧ w'.cell? ⟨nb, 0, none⟩ = some (.int .i64 when_) ∧ (Instr.lookup 115 (.map (some m)) (.int .i64 ss) false).run Tryz.prog w' = .ok (.int .i64 (n0 + 1)) w') := hide fun w' ev' S' =>
      ⟨S'.p5.cell 0 _ rfl, S'.cell 2 _ rfl, S'.p2.cell 0 _ rfl, S'.p2.cell 1 _ rfl, S'.p6.cell 0 _ rfl, by have := look_no S'.p1 ss; rwa [mget_mput, if_pos rfl] at this⟩
    obtain ⟨q1, q2, q3, q4, q5, q6⟩ := HS.out w6 _ S7.p1.drop
    have q7 : w6.cell? ⟨b, 1, none⟩ = some (.slice A es.length c) := S7.cell 1 _ rfl
    have q7d : w6.drew.cell? ⟨b, 1, none⟩ = some (.slice A es.length c) := S7.drew.cell 1 _ rfl
    have q7a : (w6.alloc (.cells #[.int .i64 ss, .int .i64 (n0 + 1), .string (Go.Proofs.YtanlobdidjednaaGreatDoor.S p), .int .i64 x1, .int .i64 when_] 95)).drew.cell? ⟨b, 1, none⟩ = some (.slice A es.length c) := (S7.box #[.int .i64 ss, .int .i64 (n0 + 1), .string (Go.Proofs.YtanlobdidjednaaGreatDoor.S p), .int .i64 x1, .int .i64 when_] 95 rfl).drew.p1.cell 1 _ rfl
    clear S6
    refine wp_region_held_drew (S := fun w' => w'.cell? ⟨bb, 0, none⟩ = some (ptr b) ∧ w'.cell? ⟨b, 2, none⟩ = some (.map (some m)) ∧ w'.cell? ⟨xb, 0, none⟩ = some (.int .i64 ss) ∧ w'.cell? ⟨xb, 1, none⟩ = some (.string (Go.Proofs.YtanlobdidjednaaGreatDoor.S p)) ∧ w'.cell? ⟨nb, 0, none⟩ = some (.int .i64 when_) ∧ (Instr.lookup 115 (.map (some m)) (.int .i64 ss) false).run Tryz.prog w' = .ok (.int .i64 (n0 + 1)) w') (by kernel_rfl) ?_ (fun hHeld => ?_)
    · exact HS.out _ _ ((S7.p1.drop).keep (by (repeat (first | exact Keeps.refl _ _ | refine Keeps.alloc ?_ _ | refine Keeps.drew ?_ | refine Keeps.drewN ?_ _))))
    refine wpAnyH_take (i := 0) (oi := _) (v := ?_) rfl (by kernel_rfl) (by kernel_rfl) (by kernel_rfl) (fun _ _ _ h => h) (Or.inl ⟨by rfl, ?_⟩) hHeld ?_
    rotate_left
    · intro w' hSw
      (try dsimp only at hSw)
      go_simp
      try with_reducible rfl
    try simp only [Act.put, List.setIfInBounds_toArray, List.set_cons_zero, List.set_cons_succ]
    refine wpAnyH_take (i := 1) (oi := _) (v := ?_) rfl (by kernel_rfl) (by kernel_rfl) (by kernel_rfl) (fun _ _ _ h => h) (Or.inl ⟨by rfl, ?_⟩) hHeld ?_
    rotate_left
    · intro w' hSw
      (try dsimp only at hSw)
      go_simp
      try with_reducible rfl
    try simp only [Act.put, List.setIfInBounds_toArray, List.set_cons_zero, List.set_cons_succ]
    refine wpAnyH_take (i := 2) (oi := _) (v := ?_) rfl (by kernel_rfl) (by kernel_rfl) (by kernel_rfl) (fun _ _ _ h => h) (Or.inl ⟨by rfl, ?_⟩) hHeld ?_
    rotate_left
    · intro w' hSw
      (try dsimp only at hSw)
      go_simp
      try with_reducible rfl
    try simp only [Act.put, List.setIfInBounds_toArray, List.set_cons_zero, List.set_cons_succ]
    refine wpAnyH_take (i := 3) (oi := _) (v := ?_) rfl (by kernel_rfl) (by kernel_rfl) (by kernel_rfl) (fun _ _ _ h => h) (Or.inl ⟨by rfl, ?_⟩) hHeld ?_
    rotate_left
    · intro w' hSw
      (try dsimp only at hSw)
      go_simp
      try with_reducible rfl
    try simp only [Act.put, List.setIfInBounds_toArray, List.set_cons_zero, List.set_cons_succ]
    refine wpAnyH_take (i := 5) (oi := _) (v := ?_) rfl (by kernel_rfl) (by kernel_rfl) (by kernel_rfl) (fun _ _ _ h => h) (Or.inl ⟨by rfl, ?_⟩) hHeld ?_
    rotate_left
    · intro w' hSw
      (try dsimp only at hSw)
      go_simp
      try with_reducible rfl
    try simp only [Act.put, List.setIfInBounds_toArray, List.set_cons_zero, List.set_cons_succ]
    refine wpAnyH_take (i := 6) (oi := _) (v := ?_) rfl (by kernel_rfl) (by kernel_rfl) (by kernel_rfl) (fun _ _ _ h => h) (Or.inl ⟨by rfl, ?_⟩) hHeld ?_
    rotate_left
    · intro w' hSw
      (try dsimp only at hSw)
      go_simp
      try with_reducible rfl
    try simp only [Act.put, List.setIfInBounds_toArray, List.set_cons_zero, List.set_cons_succ]
    refine wpAnyH_take (i := 7) (oi := _) (v := ?_) rfl (by kernel_rfl) (by kernel_rfl) (by kernel_rfl) (fun _ _ _ h => h) (Or.inl ⟨by rfl, ?_⟩) hHeld ?_
    rotate_left
    · intro w' hSw
      (try dsimp only at hSw)
      go_simp
      try with_reducible rfl
    try simp only [Act.put, List.setIfInBounds_toArray, List.set_cons_zero, List.set_cons_succ]
    refine wpAnyH_take (i := 8) (oi := _) (v := ?_) rfl (by kernel_rfl) (by kernel_rfl) (by kernel_rfl) (fun _ _ _ h => h) (Or.inl ⟨by rfl, ?_⟩) hHeld ?_
    rotate_left
    · intro w' hSw
      (try dsimp only at hSw)
      go_simp
      try with_reducible rfl
    try simp only [Act.put, List.setIfInBounds_toArray, List.set_cons_zero, List.set_cons_succ]
    refine wpAnyH_take (i := 9) (oi := _) (v := ?_) rfl (by kernel_rfl) (by kernel_rfl) (by kernel_rfl) (fun _ _ _ h => h) (Or.inl ⟨by rfl, ?_⟩) hHeld ?_
    rotate_left
    · intro w' hSw
      (try dsimp only at hSw)
      go_simp
      try with_reducible rfl
    try simp only [Act.put, List.setIfInBounds_toArray, List.set_cons_zero, List.set_cons_succ]
    refine wpAnyH_take (i := 10) (oi := _) (v := ?_) rfl (by kernel_rfl) (by kernel_rfl) (by kernel_rfl) (fun _ _ _ h => h) (Or.inl ⟨by rfl, ?_⟩) hHeld ?_
    rotate_left
    · intro w' hSw
      (try dsimp only at hSw)
      go_simp
      try with_reducible rfl
    try simp only [Act.put, List.setIfInBounds_toArray, List.set_cons_zero, List.set_cons_succ]
    refine wpAnyH_take (i := 11) (oi := _) (v := ?_) rfl (by kernel_rfl) (by kernel_rfl) (by kernel_rfl) (fun _ _ _ h => h) (Or.inl ⟨by rfl, ?_⟩) hHeld ?_
    rotate_left
    · intro w' hSw
      (try dsimp only at hSw)
      go_simp
      try with_reducible rfl
    try simp only [Act.put, List.setIfInBounds_toArray, List.set_cons_zero, List.set_cons_succ]
    refine wpAnyH_take (i := 12) (oi := _) (v := ?_) rfl (by kernel_rfl) (by kernel_rfl) (by kernel_rfl) (fun _ _ _ h => h) (Or.inl ⟨by rfl, ?_⟩) hHeld ?_
    rotate_left
    · intro w' hSw
      (try dsimp only at hSw)
      go_simp
      try with_reducible rfl
    try simp only [Act.put, List.setIfInBounds_toArray, List.set_cons_zero, List.set_cons_succ]
    refine wpAnyH_take (i := 13) (oi := _) (v := ?_) rfl (by kernel_rfl) (by kernel_rfl) (by kernel_rfl) (fun _ _ _ h => h) (Or.inl ⟨by rfl, ?_⟩) hHeld ?_
    rotate_left
    · intro w' hSw
      (try dsimp only at hSw)
      go_simp
      try with_reducible rfl
    try simp only [Act.put, List.setIfInBounds_toArray, List.set_cons_zero, List.set_cons_succ]
    refine wpAnyH_take (i := 14) (oi := _) (v := ?_) rfl (by kernel_rfl) (by kernel_rfl) (by kernel_rfl) (fun _ _ _ h => h) (Or.inl ⟨by rfl, ?_⟩) hHeld ?_
    rotate_left
    · intro w' hSw
      (try dsimp only at hSw)
      go_simp
      try with_reducible rfl
    try simp only [Act.put, List.setIfInBounds_toArray, List.set_cons_zero, List.set_cons_succ]
    refine wpAnyH_take (i := 15) (oi := _) (v := ?_) rfl (by kernel_rfl) (by kernel_rfl) (by kernel_rfl) (fun _ _ _ h => h) (Or.inl ⟨by rfl, ?_⟩) hHeld ?_
    rotate_left
    · intro w' hSw
      (try dsimp only at hSw)
      go_simp
      try with_reducible rfl
    try simp only [Act.put, List.setIfInBounds_toArray, List.set_cons_zero, List.set_cons_succ]
    refine wpAnyH_take (i := 16) (oi := _) (v := ?_) rfl (by kernel_rfl) (by kernel_rfl) (by kernel_rfl) (fun _ _ _ h => h) (Or.inl ⟨by rfl, ?_⟩) hHeld ?_
    rotate_left
    · intro w' hSw
      (try dsimp only at hSw)
      go_simp
      try with_reducible rfl
    try simp only [Act.put, List.setIfInBounds_toArray, List.set_cons_zero, List.set_cons_succ]
    refine wpAnyH_take (i := 17) (oi := _) (v := ?_) rfl (by kernel_rfl) (by kernel_rfl) (by kernel_rfl) (fun _ _ _ h => h) (Or.inl ⟨by rfl, ?_⟩) hHeld ?_
    rotate_left
    · intro w' hSw
      (try dsimp only at hSw)
      go_simp
      try with_reducible rfl
    try simp only [Act.put, List.setIfInBounds_toArray, List.set_cons_zero, List.set_cons_succ]
    refine wpAnyH_take (i := 18) (oi := _) (v := ?_) rfl (by kernel_rfl) (by kernel_rfl) (by kernel_rfl) (fun _ _ _ h => h) (Or.inl ⟨by rfl, ?_⟩) hHeld ?_
    rotate_left
    · intro w' hSw
      (try dsimp only at hSw)
      go_simp
      try with_reducible rfl
    try simp only [Act.put, List.setIfInBounds_toArray, List.set_cons_zero, List.set_cons_succ]
    refine wpAnyH_ready (rs := [4, 19]) (by kernel_rfl) (by simp) ?_
    refine AllReadyH.cons rfl (fun K hK => ?_) ?_
    · go_simp
      refine hK.out _ _ ?_ (fun hHeld => ?_)
      · exact HS.out _ _ ((S7.p1.drop).keep (by (repeat (first | exact Keeps.refl _ _ | refine Keeps.alloc ?_ _ | refine Keeps.drew ?_ | refine Keeps.drewN ?_ _))))
      clear hK K
      try simp only [Act.put, List.setIfInBounds_toArray, List.set_cons_zero, List.set_cons_succ]
      refine wpAnyH_ready (rs := [19]) (by kernel_rfl) (by simp) ?_
      refine AllReadyH.cons rfl (fun K hK => ?_) ?_
      · go_simp
        refine hK.out _ _ ?_ (fun hHeld => ?_)
        · exact HS.out _ _ ((S7.p1.drop).keep (by (repeat (first | exact Keeps.refl _ _ | refine Keeps.alloc ?_ _ | refine Keeps.drew ?_ | refine Keeps.drewN ?_ _))))
        clear hK K
        try simp only [Act.put, List.setIfInBounds_toArray, List.set_cons_zero, List.set_cons_succ]
        refine wpAnyH_ready (rs := [20]) (by kernel_rfl) (by simp) ?_
        refine AllReadyH.cons rfl (fun K hK => ?_) ?_
        · refine step_app slV rfl (.tmp 30) (.tmp 45) rfl (g := g) (S := (S7.drew.box #[.int .i64 ss, .int .i64 (n0 + 1), .string (Go.Proofs.YtanlobdidjednaaGreatDoor.S p), .int .i64 x1, .int .i64 when_] 95 rfl).p2) rfl (Src.block (heap_alloc_new _ _) 5 1 rfl) rfl (by simp [Value.oneCell']) (by unfold maxLen; omega) (by omega) ?_; intro A8 c8 w8 S8; have r7 : w8.cell? ⟨b, 1, none⟩ = some (.slice A es.length c) := S8.p2.cell 1 _ rfl; have r8 := S8.p2.cells_fz 1
          refine hK.out _ _ ?_ (fun hHeld => ?_)
          · exact HS.out _ _ (S8.drop.drop)
          clear hK K
          try simp only [Act.put, List.setIfInBounds_toArray, List.set_cons_zero, List.set_cons_succ]
          refine wpAnyH_take (i := 21) (oi := _) (v := ?_) rfl (by kernel_rfl) (by kernel_rfl) (by kernel_rfl) (fun _ _ _ h => h) (Or.inl ⟨by rfl, ?_⟩) hHeld ?_
          rotate_left
          · intro w' hSw
            (try dsimp only at hSw)
            go_simp
            try with_reducible rfl
          try simp only [Act.put, List.setIfInBounds_toArray, List.set_cons_zero, List.set_cons_succ]
          refine wpAnyH_take (i := 22) (oi := _) (v := ?_) rfl (by kernel_rfl) (by kernel_rfl) (by kernel_rfl) (fun _ _ _ h => h) (Or.inl ⟨by rfl, ?_⟩) hHeld ?_
          rotate_left
          · intro w' hSw
            (try dsimp only at hSw)
            go_simp
            try with_reducible rfl
          try simp only [Act.put, List.setIfInBounds_toArray, List.set_cons_zero, List.set_cons_succ]
          refine wpAnyH_ready (rs := [23]) (by kernel_rfl) (by simp) ?_
          refine AllReadyH.cons rfl (fun K hK => ?_) ?_
          · go_simp
            refine hK.out _ _ ?_ (fun hHeld => ?_)
            · exact HS.out _ _ ((S8.drop.drop).setc 1 _)
            clear hK K
            try simp only [Act.put, List.setIfInBounds_toArray, List.set_cons_zero, List.set_cons_succ]
            refine wpAnyH_done (by kernel_rfl) ?_ _
            have S9 := (S8.p2).setc 1 (.slice A8 (es.length + 1) c8)
            clear r7 r8 q1 q2 q3 q4 q5 q6 q7 q7d q7a HS
            generalize w8.setCell ⟨b, 1, none⟩ (.slice A8 (es.length + 1) c8) = w9 at *
            have y3 : w9.cell? ⟨xb, 3, none⟩ = some (.bool FP) := S9.p4.cell 3 _ rfl
            have S10 : Sat g w9 (cellsA b 118 #[wv, .slice A8 (es.length + 1) c8, .map (some m)] :: rowA 95 5 (.slice A8 (es.length + 1) c8) (es ++ [(⟨ss, n0 + 1, p, x1, when_⟩ : EvT)]).length ((es ++ [(⟨ss, n0 + 1, p, x1, when_⟩ : EvT)]).flatMap evC) :: mapA kW kW m (mput nos ss (n0 + 1)) :: cellsA sb 9 #[.string (Go.Proofs.YtanlobdidjednaaGreatDoor.S s)] :: cellsA wb 93 #[.int .i64 what] :: cellsA bb 76 #[ptr b] :: cellsA nb 3 #[.int .i64 when_] :: L) := by
              rw [List.length_append, List.length_singleton, List.flatMap_append, List.flatMap_singleton]
              exact S9.p2.drop.p3.drop
            have HS10 := hide S10.notesShut
            clear S10 S9 S8 S7
            go_wp2_with fail
            go_ret
            refine ⟨rfl, ?_⟩
            rw [HN0.out]
            exact HS10.out
          exact AllReadyH.nil
        exact AllReadyH.nil
      exact AllReadyH.nil
    refine AllReadyH.cons rfl (fun K hK => ?_) ?_
    · go_simp
      refine hK.out _ _ ?_ (fun hHeld => ?_)
      · exact HS.out _ _ ((S7.p1.drop).keep (by (repeat (first | exact Keeps.refl _ _ | refine Keeps.alloc ?_ _ | refine Keeps.drew ?_ | refine Keeps.drewN ?_ _))))
      clear hK K
      try simp only [Act.put, List.setIfInBounds_toArray, List.set_cons_zero, List.set_cons_succ]
      refine wpAnyH_ready (rs := [4]) (by kernel_rfl) (by simp) ?_
      refine AllReadyH.cons rfl (fun K hK => ?_) ?_
      · go_simp
        refine hK.out _ _ ?_ (fun hHeld => ?_)
        · exact HS.out _ _ ((S7.p1.drop).keep (by (repeat (first | exact Keeps.refl _ _ | refine Keeps.alloc ?_ _ | refine Keeps.drew ?_ | refine Keeps.drewN ?_ _))))
        clear hK K
        try simp only [Act.put, List.setIfInBounds_toArray, List.set_cons_zero, List.set_cons_succ]
        refine wpAnyH_ready (rs := [20]) (by kernel_rfl) (by simp) ?_
        refine AllReadyH.cons rfl (fun K hK => ?_) ?_
        · refine step_app slV rfl (.tmp 30) (.tmp 45) rfl (g := g) (S := (S7.drew.box #[.int .i64 ss, .int .i64 (n0 + 1), .string (Go.Proofs.YtanlobdidjednaaGreatDoor.S p), .int .i64 x1, .int .i64 when_] 95 rfl).p2) rfl (Src.block (heap_alloc_new _ _) 5 1 rfl) rfl (by simp [Value.oneCell']) (by unfold maxLen; omega) (by omega) ?_; intro A8 c8 w8 S8; have r7 : w8.cell? ⟨b, 1, none⟩ = some (.slice A es.length c) := S8.p2.cell 1 _ rfl; have r8 := S8.p2.cells_fz 1
          refine hK.out _ _ ?_ (fun hHeld => ?_)
          · exact HS.out _ _ (S8.drop.drop)
          clear hK K
          try simp only [Act.put, List.setIfInBounds_toArray, List.set_cons_zero, List.set_cons_succ]
          refine wpAnyH_take (i := 21) (oi := _) (v := ?_) rfl (by kernel_rfl) (by kernel_rfl) (by kernel_rfl) (fun _ _ _ h => h) (Or.inl ⟨by rfl, ?_⟩) hHeld ?_
          rotate_left
          · intro w' hSw
            (try dsimp only at hSw)
            go_simp
            try with_reducible rfl
          try simp only [Act.put, List.setIfInBounds_toArray, List.set_cons_zero, List.set_cons_succ]
          refine wpAnyH_take (i := 22) (oi := _) (v := ?_) rfl (by kernel_rfl) (by kernel_rfl) (by kernel_rfl) (fun _ _ _ h => h) (Or.inl ⟨by rfl, ?_⟩) hHeld ?_
          rotate_left
          · intro w' hSw
            (try dsimp only at hSw)
            go_simp
            try with_reducible rfl
          try simp only [Act.put, List.setIfInBounds_toArray, List.set_cons_zero, List.set_cons_succ]
          refine wpAnyH_ready (rs := [23]) (by kernel_rfl) (by simp) ?_
          refine AllReadyH.cons rfl (fun K hK => ?_) ?_
          · go_simp
            refine hK.out _ _ ?_ (fun hHeld => ?_)
            · exact HS.out _ _ ((S8.drop.drop).setc 1 _)
            clear hK K
            try simp only [Act.put, List.setIfInBounds_toArray, List.set_cons_zero, List.set_cons_succ]
            refine wpAnyH_done (by kernel_rfl) ?_ _
            have S9 := (S8.p2).setc 1 (.slice A8 (es.length + 1) c8)
            clear r7 r8 q1 q2 q3 q4 q5 q6 q7 q7d q7a HS
            generalize w8.setCell ⟨b, 1, none⟩ (.slice A8 (es.length + 1) c8) = w9 at *
            have y3 : w9.cell? ⟨xb, 3, none⟩ = some (.bool FP) := S9.p4.cell 3 _ rfl
            have S10 : Sat g w9 (cellsA b 118 #[wv, .slice A8 (es.length + 1) c8, .map (some m)] :: rowA 95 5 (.slice A8 (es.length + 1) c8) (es ++ [(⟨ss, n0 + 1, p, x1, when_⟩ : EvT)]).length ((es ++ [(⟨ss, n0 + 1, p, x1, when_⟩ : EvT)]).flatMap evC) :: mapA kW kW m (mput nos ss (n0 + 1)) :: cellsA sb 9 #[.string (Go.Proofs.YtanlobdidjednaaGreatDoor.S s)] :: cellsA wb 93 #[.int .i64 what] :: cellsA bb 76 #[ptr b] :: cellsA nb 3 #[.int .i64 when_] :: L) := by
              rw [List.length_append, List.length_singleton, List.flatMap_append, List.flatMap_singleton]
              exact S9.p2.drop.p3.drop
            have HS10 := hide S10.notesShut
            clear S10 S9 S8 S7
            go_wp2_with fail
            go_ret
            refine ⟨rfl, ?_⟩
            rw [HN0.out]
            exact HS10.out
          exact AllReadyH.nil
        exact AllReadyH.nil
      exact AllReadyH.nil
    exact AllReadyH.nil
end

section
set_option linter.unusedVariables false
set_option linter.unusedSimpArgs false
open Go.RowKit

theorem eg_fire (args : Array Value) (w : World) : (callFunc 90 args).run Tryz.prog w = .ok (.enter 90 args) w := by kernel_rfl
/-- numbers between 0 and N -/
def NosOk (nos : List (Int × Int)) (N : Int) : Prop := ∀ k, 0 ≤ (mget nos k).getD 0 ∧ (mget nos k).getD 0 ≤ N
theorem NosOk.put {nos : List (Int × Int)} {N : Int} (h : NosOk nos N) (k : Int) : NosOk (mput nos k ((mget nos k).getD 0 + 1)) (N + 1) := by
  intro j
  rw [mget_mput]
  have h1 := h k
  have h2 := h j
  split
  · simp only [Option.getD_some]; omega
  · omega
theorem NosOk.mono {nos : List (Int × Int)} {N M : Int} (h : NosOk nos N) (hm : N ≤ M) : NosOk nos M := fun k => ⟨(h k).1, Int.le_trans (h k).2 hm⟩
theorem note_ok (s : List UInt8) (what when_ : Int) (st : Nts) (x : WatT) {N : Int} (h : NosOk st.2 N) : NosOk (noteF s what when_ st x).2 (N + 1) ∧ (noteF s what when_ st x).1.length ≤ st.1.length + 1 := by
  unfold noteF
  split
  · exact ⟨h.put _, by simp⟩
  · exact ⟨h.mono (by omega), by omega⟩
theorem notes_ok (s : List UInt8) (what when_ : Int) (l : List WatT) (st : Nts) {N : Int} (h : NosOk st.2 N) : NosOk (l.foldl (noteF s what when_) st).2 (N + l.length) ∧ (l.foldl (noteF s what when_) st).1.length ≤ st.1.length + l.length := by
  induction l generalizing st N with
  | nil => simpa using h
  | cons x r ih =>
    obtain ⟨h1, h2⟩ := note_ok s what when_ st x h
    obtain ⟨h3, h4⟩ := ih _ h1
    rw [List.foldl_cons, List.length_cons]
    refine ⟨h3.mono (by omega), by omega⟩

set_option maxRecDepth 100000 in
set_option maxHeartbeats 4000000 in
theorem fire_book {g w : World} {L : List Asn} {b : Nat} {B : BookT} (S : Sat g w (bookA b B :: L)) (hl : B.es.length ≤ 500000) (hl2 : B.ws.length ≤ 1000) (hn : NosOk B.nos 500000) (s : List UInt8) (what when_ : Int) (hs : s.length ≤ 140737488355328) :
    Calls Tryz.prog 77 #[ptr b, .string (Go.Proofs.YtanlobdidjednaaGreatDoor.S s), .int .i64 what, .int .i64 when_] w fun e w' => e = .returned (.tuple #[]) ∧ Sat g w' (bookA b (fireF B s what when_) :: L) := by
  obtain ⟨wv, S1⟩ := S.bookOpen
  obtain ⟨ws, es, nos⟩ := B
  simp only at hl hl2 hn S1
  obtain ⟨A, c, rfl, -⟩ := S1.p1.row.form
  clear S
  go_enter Tryz.func77, Tryz.ntmps77
  go_upto_region 1 with fail
  have S2 := (((S1.box #[ptr b] 76 rfl).box #[.string (Go.Proofs.YtanlobdidjednaaGreatDoor.S s)] 9 (b := w.heap.size + 1) (by simp)).box #[.int .i64 what] 93 (b := w.heap.size + 1 + 1) (by simp)).box #[.int .i64 when_] 3 (b := w.heap.size + 1 + 1 + 1) (by simp)
  generalize (((w.alloc (.cells #[ptr b] 76)).alloc (.cells #[.string (Go.Proofs.YtanlobdidjednaaGreatDoor.S s)] 9)).alloc (.cells #[.int .i64 what] 93)).alloc (.cells #[.int .i64 when_] 3) = w3 at *
  generalize w.heap.size + 1 + 1 + 1 = nb at *
  generalize w.heap.size + 1 + 1 = wb at *
  generalize w.heap.size + 1 = sb at *
  generalize w.heap.size = bb at *
  have S3 : Sat g w3 (rowA 126 4 (.slice A ws.length c) ws.length (ws.flatMap watC) :: notesA b (.slice A ws.length c) es nos :: cellsA sb 9 #[.string (Go.Proofs.YtanlobdidjednaaGreatDoor.S s)] :: cellsA wb 93 #[.int .i64 what] :: cellsA bb 76 #[ptr b] :: cellsA nb 3 #[.int .i64 when_] :: L) := (S2.b3.p1).p4.p5
  clear S1 S2
  have c0 : w3.cell? ⟨bb, 0, none⟩ = some (ptr b) := S3.p4.cell 0 _ rfl
  have HN : Hid (∀ k x, ws[k]? = some x → (ws.take (k + 1)).foldl (noteF s what when_) (es, nos) = noteF s what when_ ((ws.take k).foldl (noteF s what when_) (es, nos)) x) := hide fun k x h => by
    obtain ⟨hk, rfl⟩ := List.getElem?_eq_some_iff.1 h
    rw [List.take_succ_eq_append_getElem hk, List.foldl_append]
    rfl
  have HB : Hid (∀ k, NosOk ((ws.take k).foldl (noteF s what when_) (es, nos)).2 1000000 ∧ ((ws.take k).foldl (noteF s what when_) (es, nos)).1.length ≤ 1000000) := hide fun k => by
    obtain ⟨h1, h2⟩ := notes_ok s what when_ (ws.take k) (es, nos) hn
    have h3 : (ws.take k).length ≤ ws.length := by rw [List.length_take]; omega
    simp only at h2
    exact ⟨h1.mono (by omega), by omega⟩
  have HDL : Hid (∀ w', Sat g w' (rowA 126 4 (.slice A ws.length c) ws.length (ws.flatMap watC) :: notesA b (.slice A ws.length c) es nos :: cellsA sb 9 #[.string (Go.Proofs.YtanlobdidjednaaGreatDoor.S s)] :: cellsA wb 93 #[.int .i64 what] :: cellsA bb 76 #[ptr b] :: cellsA nb 3 #[.int .i64 when_] :: L) → Calls Tryz.prog 89 #[.slice A ws.length c, .func (.func 90) #[] #[ptr sb, ptr wb, ptr bb, ptr nb]] w' fun e w2 =>
      ∃ v', e = .returned v' ∧ Sat g w2 (rowA 126 4 v' (fireF ⟨ws, es, nos⟩ s what when_).ws.length ((fireF ⟨ws, es, nos⟩ s what when_).ws.flatMap watC) :: notesA b (.slice A ws.length c) (fireF ⟨ws, es, nos⟩ s what when_).es (fireF ⟨ws, es, nos⟩ s what when_).nos :: cellsA sb 9 #[.string (Go.Proofs.YtanlobdidjednaaGreatDoor.S s)] :: cellsA wb 93 #[.int .i64 what] :: cellsA bb 76 #[ptr b] :: cellsA nb 3 #[.int .i64 when_] :: L)) := hide fun w' S' => by
    have h := del_wat (p := firesP s what) (gF := 90) (lb := #[ptr sb, ptr wb, ptr bb, ptr nb]) (I := fun k => notesA b (.slice A ws.length c) ((ws.take k).foldl (noteF s what when_) (es, nos)).1 ((ws.take k).foldl (noteF s what when_) (es, nos)).2 :: cellsA sb 9 #[.string (Go.Proofs.YtanlobdidjednaaGreatDoor.S s)] :: cellsA wb 93 #[.int .i64 what] :: cellsA bb 76 #[ptr b] :: cellsA nb 3 #[.int .i64 when_] :: L)
      (fun k x A w' hx S' => by
        refine (fire1_watch S'.b5 x hs (HB.out k).2 ⟨((HB.out k).1 x.session).1, Int.le_trans ((HB.out k).1 x.session).2 (by decide)⟩).mono ?_
        rintro e w2 ⟨rfl, S2⟩
        refine ⟨rfl, ?_⟩
        dsimp only
        rw [HN.out k x hx]
        exact S2.p5) eg_fire S' (by omega)
    refine h.mono ?_
    rintro e w2 ⟨v', rfl, S2⟩
    rw [List.take_length] at S2
    exact ⟨v', rfl, S2⟩
  obtain ⟨B2, hB2⟩ : ∃ B2, fireF ⟨ws, es, nos⟩ s what when_ = B2 := ⟨_, rfl⟩
  rw [hB2] at HDL
  have HB2 := hide hB2
  clear hB2
  clear HN HB hn
  go_upto_region 2 with fail
  obtain ⟨ev, m, SN⟩ := S3.p1.notesOpen
  have q0 : w3.drew.cell? ⟨b, 0, none⟩ = some (.slice A ws.length c) := SN.drew.cell 0 _ rfl
  clear SN
  refine wp_region_held_drew (S := fun w' => w'.cell? ⟨bb, 0, none⟩ = some (ptr b)) (by kernel_rfl) ?_ (fun hHeld => ?_)
  · exact S3.drew.p4.cell 0 _ rfl
  refine wpAnyH_take (i := 0) (oi := _) (v := ?_) rfl (by kernel_rfl) (by kernel_rfl) (by kernel_rfl) (fun _ _ _ h => h) (Or.inl ⟨by rfl, ?_⟩) hHeld ?_
  rotate_left
  · intro w' hSw
    (try dsimp only at hSw)
    go_simp
    try with_reducible rfl
  try simp only [Act.put, List.setIfInBounds_toArray, List.set_cons_zero, List.set_cons_succ]
  refine wpAnyH_take (i := 1) (oi := _) (v := ?_) rfl (by kernel_rfl) (by kernel_rfl) (by kernel_rfl) (fun _ _ _ h => h) (Or.inl ⟨by rfl, ?_⟩) hHeld ?_
  rotate_left
  · intro w' hSw
    (try dsimp only at hSw)
    go_simp
    try with_reducible rfl
  try simp only [Act.put, List.setIfInBounds_toArray, List.set_cons_zero, List.set_cons_succ]
  refine wpAnyH_take (i := 2) (oi := _) (v := ?_) rfl (by kernel_rfl) (by kernel_rfl) (by kernel_rfl) (fun _ _ _ h => h) (Or.inl ⟨by rfl, ?_⟩) hHeld ?_
  rotate_left
  · intro w' hSw
    (try dsimp only at hSw)
    go_simp
    try with_reducible rfl
  try simp only [Act.put, List.setIfInBounds_toArray, List.set_cons_zero, List.set_cons_succ]
  refine wpAnyH_take (i := 3) (oi := _) (v := ?_) rfl (by kernel_rfl) (by kernel_rfl) (by kernel_rfl) (fun _ _ _ h => h) (Or.inl ⟨by rfl, ?_⟩) hHeld ?_
  rotate_left
  · intro w' hSw
    (try dsimp only at hSw)
    go_simp
    try with_reducible rfl
  try simp only [Act.put, List.setIfInBounds_toArray, List.set_cons_zero, List.set_cons_succ]
  refine wpAnyH_take (i := 5) (oi := _) (v := ?_) rfl (by kernel_rfl) (by kernel_rfl) (by kernel_rfl) (fun _ _ _ h => h) (Or.inl ⟨by rfl, ?_⟩) hHeld ?_
  rotate_left
  · intro w' hSw
    (try dsimp only at hSw)
    go_simp
    try with_reducible rfl
  try simp only [Act.put, List.setIfInBounds_toArray, List.set_cons_zero, List.set_cons_succ]
  refine wpAnyH_ready (rs := [4]) (by kernel_rfl) (by simp) ?_
  refine AllReadyH.cons rfl (fun K hK => ?_) ?_
  · go_simp
    refine hK.out _ _ ?_ (fun hHeld => ?_)
    · exact S3.drew.p4.cell 0 _ rfl
    clear hK K
    try simp only [Act.put, List.setIfInBounds_toArray, List.set_cons_zero, List.set_cons_succ]
    refine wpAnyH_ready (rs := [6]) (by kernel_rfl) (by simp) ?_
    refine AllReadyH.cons rfl (fun K hK => ?_) ?_
    · go_simp
      go_at_call 89
      refine (HDL.out _ (S3.drew)).mono ?_
      rintro e w4 ⟨v', rfl, S5⟩
      obtain ⟨A6, c6, rfl, -⟩ := S5.row.form
      obtain ⟨ev, m, S6⟩ := S5.p1.notesOpen
      have z0 : w4.cell? ⟨b, 0, none⟩ = some (.slice A ws.length c) := S6.cell 0 _ rfl
      have z1 := S6.cells_fz 0
      go_wp2_with fail
      refine hK.out _ _ ?_ (fun hHeld => ?_)
      · exact S5.p4.cell 0 _ rfl
      clear hK K
      try simp only [Act.put, List.setIfInBounds_toArray, List.set_cons_zero, List.set_cons_succ]
      refine wpAnyH_take (i := 7) (oi := _) (v := ?_) rfl (by kernel_rfl) (by kernel_rfl) (by kernel_rfl) (fun _ _ _ h => h) (Or.inl ⟨by rfl, ?_⟩) hHeld ?_
      rotate_left
      · intro w' hSw
        (try dsimp only at hSw)
        go_simp
        try with_reducible rfl
      try simp only [Act.put, List.setIfInBounds_toArray, List.set_cons_zero, List.set_cons_succ]
      refine wpAnyH_take (i := 8) (oi := _) (v := ?_) rfl (by kernel_rfl) (by kernel_rfl) (by kernel_rfl) (fun _ _ _ h => h) (Or.inl ⟨by rfl, ?_⟩) hHeld ?_
      rotate_left
      · intro w' hSw
        (try dsimp only at hSw)
        go_simp
        try with_reducible rfl
      try simp only [Act.put, List.setIfInBounds_toArray, List.set_cons_zero, List.set_cons_succ]
      refine wpAnyH_ready (rs := [9]) (by kernel_rfl) (by simp) ?_
      refine AllReadyH.cons rfl (fun K hK => ?_) ?_
      · go_simp
        refine hK.out _ _ ?_ (fun hHeld => ?_)
        · exact ((S6.setc 0 _).p6).cell 0 _ rfl
        clear hK K
        try simp only [Act.put, List.setIfInBounds_toArray, List.set_cons_zero, List.set_cons_succ]
        refine wpAnyH_done (by kernel_rfl) ?_ _
        have S7 := S6.setc 0 (.slice A6 B2.ws.length c6)
        clear HDL
        go_wp2_with fail
        go_end0
        refine ⟨rfl, ?_⟩
        rw [HB2.out]
        have S8 : Sat g _ (cellsA b 118 #[.slice A6 B2.ws.length c6, ev, .map (some m)] :: _) := S7
        exact Sat.bookShut (Sat.notesShut ((((S8.p4.drop).p4.drop).p4.drop).p4.drop))
      exact AllReadyH.nil
    exact AllReadyH.nil
  exact AllReadyH.nil
end

section
set_option linter.unusedVariables false
set_option linter.unusedSimpArgs false
open Go.RowKit

/-- how many stand ahead of a watch; whether it is there -/
def lowF (ws : List WatT) (x : WatT) : Nat := (ws.takeWhile fun q => decide (ordF q x < 0)).length
def thereF (ws : List WatT) (x : WatT) : Bool := match ws[lowF ws x]? with
  | some q => decide (ordF q x = 0)
  | none => false
/-- those that stand ahead of it stand ahead of the others -/
def Parts (ws : List WatT) (x : WatT) : Prop := ∀ (a b : Nat) (p q : WatT), a ≤ b → ws[a]? = some p → ws[b]? = some q → ordF q x < 0 → ordF p x < 0
theorem low_at {ws : List WatT} {x : WatT} {i : Nat} (h0 : i ≤ ws.length) (h1 : ∀ t q, t < i → ws[t]? = some q → ordF q x < 0) (h2 : ∀ q, ws[i]? = some q → ¬ ordF q x < 0) : lowF ws x = i := by
  unfold lowF
  have e : ws = ws.take i ++ ws.drop i := (List.take_append_drop i ws).symm
  have ha : ∀ q ∈ ws.take i, (fun q => decide (ordF q x < 0)) q = true := by
    intro q hq
    obtain ⟨t, ht, rfl⟩ := List.mem_take_iff_getElem.1 hq
    have h3 : t < ws.length := by omega
    exact decide_eq_true (h1 t _ (by omega) (List.getElem?_eq_getElem h3))
  have hd : (ws.drop i).takeWhile (fun q => decide (ordF q x < 0)) = [] := by
    cases hc : ws.drop i with
    | nil => rfl
    | cons q r =>
      have : ws[i]? = some q := by
        have := congrArg (·[0]?) hc
        simpa [List.getElem?_drop] using this
      simp [h2 q this]
  conv => lhs; rw [e]
  rw [List.takeWhile_append_of_pos ha, hd, List.append_nil, List.length_take]
  omega
theorem low_le (ws : List WatT) (x : WatT) : lowF ws x ≤ ws.length := by
  unfold lowF
  have := List.takeWhile_sublist (fun q => decide (ordF q x < 0)) (l := ws)
  exact this.length_le

set_option maxRecDepth 100000 in
set_option maxHeartbeats 4000000 in
theorem bins_watch (w : World) (A : Option Addr) (ws : List WatT) (c : Nat) (x : WatT) (h : Src w 4 A ws.length (ws.flatMap watC)) (hp : Parts ws x) (hl : ws.length ≤ 1000000) :
    Calls Tryz.prog 96 #[.slice A ws.length c, watV x, .func (.func 97) #[] #[]] w fun e w' =>
      e = .returned (.tuple #[.int .i64 (lowF ws x), .bool (thereF ws x)]) ∧ Keeps (fun _ => False) w w' := by
  have HP := hide hp
  clear hp
  have HL : Hid (∀ i, i ≤ ws.length → (∀ t q, t < i → ws[t]? = some q → ordF q x < 0) → (∀ q, ws[i]? = some q → ¬ ordF q x < 0) → lowF ws x = i) := fun i => low_at
  have HT : Hid (thereF ws x = match ws[lowF ws x]? with | some q => decide (ordF q x = 0) | none => false) := rfl
  generalize lowF ws x = lo at *
  generalize thereF ws x = th at *
  have HO : Hid (∀ w q, Calls Tryz.prog 97 #[watV q, watV x] w fun e w' => e = .returned (.int .i64 (ordF q x)) ∧ Keeps (fun _ => False) w w') := fun w q => order_watch w q x
  obtain ⟨y0, y1, y2, y3⟩ := x
  have S0 := (Sat.start w).box #[.int .i64 y0, .string (S y1), .bool y2, .bool y3] 126 rfl
  have hk0 := S0.p1.keep_all
  have h0 := h.keep hk0 (fun _ _ h => h)
  have xb0 : (w.alloc (.cells #[.int .i64 y0, .string (S y1), .bool y2, .bool y3] 126)).cell? ⟨w.heap.size, 0, none⟩ = some (.int .i64 y0) := S0.cell 0 _ rfl
  have xb1 : (w.alloc (.cells #[.int .i64 y0, .string (S y1), .bool y2, .bool y3] 126)).cell? ⟨w.heap.size, 1, none⟩ = some (.string (S y1)) := S0.cell 1 _ rfl
  have xb2 : (w.alloc (.cells #[.int .i64 y0, .string (S y1), .bool y2, .bool y3] 126)).cell? ⟨w.heap.size, 2, none⟩ = some (.bool y2) := S0.cell 2 _ rfl
  have xb3 : (w.alloc (.cells #[.int .i64 y0, .string (S y1), .bool y2, .bool y3] 126)).cell? ⟨w.heap.size, 3, none⟩ = some (.bool y3) := S0.cell 3 _ rfl
  go_enter Tryz.func96, Tryz.ntmps96
  go_upto_region 1 with fail
  generalize hwB : w.alloc (.cells #[.int .i64 y0, .string (S y1), .bool y2, .bool y3] 126) = wB at *
  generalize w.heap.size = xb at *
  clear hwB S0
  have HK0 := hide hk0
  clear hk0 h
  go_wp2_with fail
  go_loopw [9, 10] (fun i j wr => ∃ a b : Nat, i = .int .i64 a ∧ j = .int .i64 b ∧ a ≤ b ∧ b ≤ ws.length ∧ Hid ((∀ t q, t < a → ws[t]? = some q → ordF q ⟨y0, y1, y2, y3⟩ < 0) ∧ (∀ t q, b ≤ t → ws[t]? = some q → 0 ≤ ordF q ⟨y0, y1, y2, y3⟩)) ∧ Keeps (fun _ => False) wB wr) (fun i j _ => (RowKit.intOf j).toNat - (RowKit.intOf i).toNat)
  case atStart => exact ⟨0, ws.length, rfl, rfl, by omega, by omega, hide ⟨fun t q ht => by omega, fun t q h1 h2 => by rw [List.getElem?_eq_none h1] at h2; cases h2⟩, Keeps.refl _ _⟩
  case round =>
    obtain ⟨a, b, rfl, rfl, hab, hb, HI, hK⟩ := hrel
    have h1 := h0.keep hK (fun _ _ h => h)
    have x0 := hK.cell xb0 (fun h => h)
    have x1 := hK.cell xb1 (fun h => h)
    have x2 := hK.cell xb2 (fun h => h)
    have x3 := hK.cell xb3 (fun h => h)
    have HK1 := hide (HK0.out.trans' hK)
    have HK := hide hK
    clear xb0 xb1 xb2 xb3 hK HK0
    by_cases hlt : a < b
    · have hltz : (a : Int) < b := by omega
      obtain ⟨m, hm⟩ : ∃ m : Nat, (a + b) / 2 = m := ⟨_, rfl⟩
      have hm0 : ((a : Int) + (b : Int)) / 2 = (m : Int) := by omega
      have hma : a ≤ m := by omega
      have hmb : m < b := by omega
      clear hm
      obtain ⟨ad, q, rfl, hq, d0, d1, d2, d3⟩ := wat_at h1 (k := m) (by omega)
      have HQ := hide hq
      clear hq
      obtain ⟨R, hR⟩ : ∃ R, ordF q ⟨y0, y1, y2, y3⟩ = R := ⟨_, rfl⟩
      have HC : Hid (∀ w, Calls Tryz.prog 97 #[watV q, watV ⟨y0, y1, y2, y3⟩] w fun e w' => e = .returned (.int .i64 R) ∧ Keeps (fun _ => False) w w') := by rw [← hR]; exact fun w => HO.out w q
      have HR := hide hR
      clear hR h1
      obtain ⟨f0, f1, f2, f3⟩ := q
      simp only at d0 d1 d2 d3 HC
      have hm1 : (0 : Int) ≤ (m : Int) := by omega
      have hm2 : (m : Int) < (ws.length : Int) := by omega
      go_upto_region 5 with fail
      clear hltz
      by_cases hR : R < 0
      · go_region_held3 (fun w' => w'.cell? (ad.add (m * 4)) = some (.int .i64 f0) ∧ w'.cell? ⟨(ad.add (m * 4)).block, (ad.add (m * 4)).off + 1, none⟩ = some (.string (S f1)) ∧ w'.cell? ⟨(ad.add (m * 4)).block, (ad.add (m * 4)).off + 2, none⟩ = some (.bool f2) ∧ w'.cell? ⟨(ad.add (m * 4)).block, (ad.add (m * 4)).off + 3, none⟩ = some (.bool f3) ∧ w'.cell? ⟨xb, 0, none⟩ = some (.int .i64 y0) ∧ w'.cell? ⟨xb, 1, none⟩ = some (.string (S y1)) ∧ w'.cell? ⟨xb, 2, none⟩ = some (.bool y2) ∧ w'.cell? ⟨xb, 3, none⟩ = some (.bool y3)) (go_keep) (first
          | (go_at_call 97; refine (HC.out _).mono ?_; rintro e w3 ⟨rfl, hk3⟩; have c0 := hk3.cell d0 (fun h => h); have c1 := hk3.cell d1 (fun h => h); have c2 := hk3.cell d2 (fun h => h); have c3 := hk3.cell d3 (fun h => h); have c4 := hk3.cell x0 (fun h => h); have c5 := hk3.cell x1 (fun h => h); have c6 := hk3.cell x2 (fun h => h); have c7 := hk3.cell x3 (fun h => h); have HK3 := hide (show Keeps (fun _ => False) wB w3 from Keeps.trans' (by repeat (first | exact HK.out | refine Keeps.drew ?_ | refine Keeps.drewN ?_ _)) hk3); clear hk3))
        all_goals
          go_wp2_with fail
          go_roundw
          case rel => exact ⟨m + 1, b, by go_num, rfl, by omega, by omega, hide ⟨fun t q ht hq => HP.out t m q _ (by omega) hq HQ.out (by rw [HR.out]; exact hR), HI.out.2⟩, by repeat (first | exact HK3.out | refine Keeps.drew ?_ | refine Keeps.drewN ?_ _)⟩
          case measure => simp [RowKit.intOf]; omega
      · go_region_held3 (fun w' => w'.cell? (ad.add (m * 4)) = some (.int .i64 f0) ∧ w'.cell? ⟨(ad.add (m * 4)).block, (ad.add (m * 4)).off + 1, none⟩ = some (.string (S f1)) ∧ w'.cell? ⟨(ad.add (m * 4)).block, (ad.add (m * 4)).off + 2, none⟩ = some (.bool f2) ∧ w'.cell? ⟨(ad.add (m * 4)).block, (ad.add (m * 4)).off + 3, none⟩ = some (.bool f3) ∧ w'.cell? ⟨xb, 0, none⟩ = some (.int .i64 y0) ∧ w'.cell? ⟨xb, 1, none⟩ = some (.string (S y1)) ∧ w'.cell? ⟨xb, 2, none⟩ = some (.bool y2) ∧ w'.cell? ⟨xb, 3, none⟩ = some (.bool y3)) (go_keep) (first
          | (go_at_call 97; refine (HC.out _).mono ?_; rintro e w3 ⟨rfl, hk3⟩; have c0 := hk3.cell d0 (fun h => h); have c1 := hk3.cell d1 (fun h => h); have c2 := hk3.cell d2 (fun h => h); have c3 := hk3.cell d3 (fun h => h); have c4 := hk3.cell x0 (fun h => h); have c5 := hk3.cell x1 (fun h => h); have c6 := hk3.cell x2 (fun h => h); have c7 := hk3.cell x3 (fun h => h); have HK3 := hide (show Keeps (fun _ => False) wB w3 from Keeps.trans' (by repeat (first | exact HK.out | refine Keeps.drew ?_ | refine Keeps.drewN ?_ _)) hk3); clear hk3))
        all_goals
          go_wp2_with fail
          go_roundw
          case rel => exact ⟨a, m, rfl, by go_num, by omega, by omega, hide ⟨HI.out.1, fun t q ht hq => Int.not_lt.1 fun hn => by have h9 := HP.out m t _ q ht HQ.out hq hn; rw [HR.out] at h9; omega⟩, by repeat (first | exact HK3.out | refine Keeps.drew ?_ | refine Keeps.drewN ?_ _)⟩
          case measure => simp [RowKit.intOf]; omega
    · obtain rfl : a = b := by omega
      have hlo : lo = a := HL.out a (by omega) HI.out.1 (fun q hq => HI.out.2 a q (Nat.le_refl _) hq)
      subst hlo
      by_cases hn : lo < ws.length
      · obtain ⟨ad, q, rfl, hq, d0, d1, d2, d3⟩ := wat_at h1 (k := lo) hn
        have hth : th = decide (ordF q ⟨y0, y1, y2, y3⟩ = 0) := by rw [HT.out, hq]
        clear hq
        obtain ⟨R, hR⟩ : ∃ R, ordF q ⟨y0, y1, y2, y3⟩ = R := ⟨_, rfl⟩
        have HC : Hid (∀ w, Calls Tryz.prog 97 #[watV q, watV ⟨y0, y1, y2, y3⟩] w fun e w' => e = .returned (.int .i64 R) ∧ Keeps (fun _ => False) w w') := by rw [← hR]; exact fun w => HO.out w q
        rw [hR] at hth
        have HTH := hide hth
        clear hR h1 hth HT HL
        obtain ⟨f0, f1, f2, f3⟩ := q
        simp only at d0 d1 d2 d3 HC
        have hm0 : (0 : Int) ≤ (lo : Int) := by omega
        have hm2 : (lo : Int) < (ws.length : Int) := by omega
        go_upto_region 8 with fail
        go_region_held3 (fun w' => w'.cell? (ad.add (lo * 4)) = some (.int .i64 f0) ∧ w'.cell? ⟨(ad.add (lo * 4)).block, (ad.add (lo * 4)).off + 1, none⟩ = some (.string (S f1)) ∧ w'.cell? ⟨(ad.add (lo * 4)).block, (ad.add (lo * 4)).off + 2, none⟩ = some (.bool f2) ∧ w'.cell? ⟨(ad.add (lo * 4)).block, (ad.add (lo * 4)).off + 3, none⟩ = some (.bool f3) ∧ w'.cell? ⟨xb, 0, none⟩ = some (.int .i64 y0) ∧ w'.cell? ⟨xb, 1, none⟩ = some (.string (S y1)) ∧ w'.cell? ⟨xb, 2, none⟩ = some (.bool y2) ∧ w'.cell? ⟨xb, 3, none⟩ = some (.bool y3)) (go_keep) (first
          | (go_at_call 97; refine (HC.out _).mono ?_; rintro e w3 ⟨rfl, hk3⟩; have c0 := hk3.cell d0 (fun h => h); have c1 := hk3.cell d1 (fun h => h); have c2 := hk3.cell d2 (fun h => h); have c3 := hk3.cell d3 (fun h => h); have c4 := hk3.cell x0 (fun h => h); have c5 := hk3.cell x1 (fun h => h); have c6 := hk3.cell x2 (fun h => h); have c7 := hk3.cell x3 (fun h => h); have HK3 := hide (show Keeps (fun _ => False) w w3 from Keeps.trans' (by repeat (first | exact HK1.out | refine Keeps.drew ?_ | refine Keeps.drewN ?_ _)) hk3); clear hk3))
        all_goals
          go_wp2_with fail
          go_ret2
          refine ⟨?_, by repeat (first | exact HK3.out | refine Keeps.drew ?_ | refine Keeps.drewN ?_ _)⟩
          rw [HTH.out]
          first | rfl | (simp; done)
      · have hth : th = false := by rw [HT.out, List.getElem?_eq_none (by omega)]
        subst hth
        have hm3 : ¬ ((lo : Int) < (ws.length : Int)) := by omega
        have hm4 : decide ((lo : Int) < (ws.length : Int)) = false := by simpa using hm3
        go_upto_region 8 with fail
        go_quiet (fail)
        all_goals
          go_wp2_with fail
          go_ret2
          exact ⟨rfl, by repeat (first | exact HK1.out | refine Keeps.drew ?_ | refine Keeps.drewN ?_ _)⟩
end

section
set_option linter.unusedVariables false
set_option linter.unusedSimpArgs false
open Go.RowKit

def addF (B : BookT) (x : WatT) : Int × BookT :=
  if x.session < 1 ∨ 281474976710655 < x.session then (1, B) else if checkF x.path ≠ 0 then (checkF x.path, B) else if thereF B.ws x = true then (0, B) else if 40 ≤ B.ws.length then (16, B) else
  (0, ⟨B.ws.take (lowF B.ws x) ++ [x] ++ B.ws.drop (lowF B.ws x), B.es, B.nos⟩)

set_option maxRecDepth 100000 in
set_option maxHeartbeats 8000000 in
theorem add_book {g w : World} {L : List Asn} {b : Nat} {B : BookT} (S : Sat g w (bookA b B :: L)) (hG : GL w) (x : WatT) (hx : x.path.length ≤ 140737488355328) (hp : Parts B.ws x) (hl : B.ws.length ≤ 1000) :
    Calls Tryz.prog 81 #[ptr b, watV x] w fun e w' => e = .returned (.int .i64 (addF B x).1) ∧ Sat g w' (bookA b (addF B x).2 :: L) := by
  obtain ⟨wv, S1⟩ := S.bookOpen
  obtain ⟨ws, es, nos⟩ := B
  simp only at hl hp S1
  obtain ⟨A, c, rfl, -⟩ := S1.p1.row.form
  obtain ⟨ev, m, S1⟩ := S1.notesOpen
  clear S
  have HR : Hid (∀ r : Int × BookT, addF ⟨ws, es, nos⟩ x = r → ∀ w', Sat g w' (bookA b r.2 :: L) → Ending.returned (.int .i64 r.1) = Ending.returned (.int .i64 (addF ⟨ws, es, nos⟩ x).1) ∧ Sat g w' (bookA b (addF ⟨ws, es, nos⟩ x).2 :: L)) := hide fun r h w' S' => by rw [h]; exact ⟨rfl, S'⟩
  have HF : Hid (addF ⟨ws, es, nos⟩ x = if x.session < 1 ∨ 281474976710655 < x.session then (1, ⟨ws, es, nos⟩) else if checkF x.path ≠ 0 then (checkF x.path, ⟨ws, es, nos⟩) else if thereF ws x = true then (0, ⟨ws, es, nos⟩) else if 40 ≤ ws.length then (16, ⟨ws, es, nos⟩) else
    (0, ⟨ws.take (lowF ws x) ++ [x] ++ ws.drop (lowF ws x), es, nos⟩)) := rfl
  have HBK : Hid (∀ w', Sat g w' (cellsA b 118 #[.slice A ws.length c, ev, .map (some m)] :: rowA 95 5 ev es.length (es.flatMap evC) :: mapA kW kW m nos :: rowA 126 4 (.slice A ws.length c) ws.length (ws.flatMap watC) :: L) → Sat g w' (bookA b ⟨ws, es, nos⟩ :: L)) := hide fun w' S' => Sat.bookShut (B := ⟨ws, es, nos⟩) S'.notesShut
  have HCK : Hid (∀ w', GL w' → Calls Tryz.prog 95 #[.string (Go.Proofs.YtanlobdidjednaaGreatDoor.S x.path)] w' fun e w2 => e = .returned (.int .i64 (checkF x.path)) ∧ Keeps (fun _ => False) w' w2) := hide fun w' h => check_path w' x.path (by omega) h
  have HBN : Hid (∀ w', Src w' 4 A ws.length (ws.flatMap watC) → Calls Tryz.prog 96 #[.slice A ws.length c, watV x, .func (.func 97) #[] #[]] w' fun e w2 =>
      e = .returned (.tuple #[.int .i64 (lowF ws x), .bool (thereF ws x)]) ∧ Keeps (fun _ => False) w' w2) := hide fun w' h => bins_watch w' A ws c x h hp (by omega)
  have HIN : Hid (∀ w' vb L', Sat g w' (cellsA vb 126 (watC x).toArray :: rowA 126 4 (.slice A ws.length c) ws.length (ws.flatMap watC) :: L') → Calls Tryz.prog 98 #[.slice A ws.length c, .int .i64 (lowF ws x), .slice (some ⟨vb, 0, none⟩) 1 1] w' fun e w2 =>
      ∃ v', e = .returned v' ∧ Sat g w2 (rowA 126 4 v' (ws.length + 1) ((ws.take (lowF ws x) ++ [x] ++ ws.drop (lowF ws x)).flatMap watC) :: L')) := hide fun w' vb L' S' => ins_watch S' _ (low_le ws x) (by omega)
  have hlo := low_le ws x
  have HLL : Hid ((ws.take (lowF ws x) ++ [x] ++ ws.drop (lowF ws x)).length = ws.length + 1) := by
    show _ = _
    simp
    omega
  generalize addF ⟨ws, es, nos⟩ x = AF at *
  generalize hws2 : ws.take (lowF ws x) ++ [x] ++ ws.drop (lowF ws x) = ws2 at *
  clear hws2
  generalize lowF ws x = lo at *
  generalize thereF ws x = th at *
  generalize checkF x.path = ck at *
  obtain ⟨y0, y1, y2, y3⟩ := x
  simp only [watC] at HF HIN HCK
  have HG := hide (hG.keep ((Keeps.refl (fun _ => False) w).alloc (.cells #[.int .i64 y0, .string (Go.Proofs.YtanlobdidjednaaGreatDoor.S y1), .bool y2, .bool y3] 126)) (fun h => h))
  clear hG hp
  go_enter Tryz.func81, Tryz.ntmps81
  go_upto_region 1 with fail
  have S2 := S1.box #[.int .i64 y0, .string (Go.Proofs.YtanlobdidjednaaGreatDoor.S y1), .bool y2, .bool y3] 126 rfl
  generalize w.alloc (.cells #[.int .i64 y0, .string (Go.Proofs.YtanlobdidjednaaGreatDoor.S y1), .bool y2, .bool y3] 126) = w2 at *
  generalize w.heap.size = xb at *
  have a0 := S2.cell 0 _ rfl
  have a1 := S2.cell 1 _ rfl
  have a2 := S2.cell 2 _ rfl
  have a3 := S2.cell 3 _ rfl
  clear S1
  by_cases h1 : y0 < 1
  · have e : AF = (1, ⟨ws, es, nos⟩) := by rw [HF.out, if_pos (.inl h1)]
    have HE := hide e
    clear e HF
    go_wp2_with fail
    go_ret
    exact HR.out _ HE.out _ (HBK.out _ S2.drop)
  by_cases h2 : 281474976710655 < y0
  · have e : AF = (1, ⟨ws, es, nos⟩) := by rw [HF.out, if_pos (.inr h2)]
    have HE := hide e
    clear e HF
    go_wp2_with fail
    go_ret
    exact HR.out _ HE.out _ (HBK.out _ S2.drop)
  rw [if_neg (by omega)] at HF
  have h1b : 1 ≤ y0 := by omega
  have h2b : y0 ≤ 281474976710655 := by omega
  clear h1 h2
  go_wp2_with fail
  refine (HCK.out _ HG.out).mono ?_
  rintro e w3 ⟨rfl, hk3⟩
  have S3 := S2.keep hk3
  clear S2 hk3 HG HCK a0 a1 a2 a3
  by_cases h3 : ck = 0
  case neg =>
    have h3b : (ck == 0) = false := by simpa using h3
    have e : AF = (ck, ⟨ws, es, nos⟩) := by rw [HF.out, if_pos h3]
    have HE := hide e
    clear e HF
    go_wp2_with fail
    go_ret
    exact HR.out _ HE.out _ (HBK.out _ S3.drop)
  subst h3
  rw [if_neg (by simp)] at HF
  go_upto_region 6 with fail
  have a0 := S3.cell 0 _ rfl
  have a1 := S3.cell 1 _ rfl
  have a2 := S3.cell 2 _ rfl
  have a3 := S3.cell 3 _ rfl
  have c0 := S3.p1.cell 0 _ rfl
  go_region_held3 (fun w' => w'.cell? ⟨xb, 0, none⟩ = some (.int .i64 y0) ∧ w'.cell? ⟨xb, 1, none⟩ = some (.string (Go.Proofs.YtanlobdidjednaaGreatDoor.S y1)) ∧ w'.cell? ⟨xb, 2, none⟩ = some (.bool y2) ∧ w'.cell? ⟨xb, 3, none⟩ = some (.bool y3) ∧ w'.cell? ⟨b, 0, none⟩ = some (.slice A ws.length c)) (go_keep) (first
    | (go_at_call 96; refine (HBN.out _ S3.drew.p4.srcR).mono ?_; rintro e w4 ⟨rfl, hk4⟩; have S4 := S3.drew.keep hk4; have d0 := S4.cell 0 _ rfl; have d1 := S4.cell 1 _ rfl; have d2 := S4.cell 2 _ rfl; have d3 := S4.cell 3 _ rfl; have d4 := S4.p1.cell 0 _ rfl; clear hk4))
  clear a0 a1 a2 a3 c0 S3 HBN
  cases th
  case true =>
    have e : AF = (0, ⟨ws, es, nos⟩) := by rw [HF.out, if_pos rfl]
    have HE := hide e
    clear e HF
    go_wp2_with fail
    go_ret
    exact HR.out _ HE.out _ (HBK.out _ S4.drop)
  rw [if_neg (by simp)] at HF
  by_cases h4 : 40 ≤ ws.length
  · have e : AF = (16, ⟨ws, es, nos⟩) := by rw [HF.out, if_pos h4]
    have HE := hide e
    clear e HF
    have h4b : (40 : Int) ≤ (ws.length : Int) := by omega
    go_wp2_with fail
    go_ret
    exact HR.out _ HE.out _ (HBK.out _ S4.drop)
  have e : AF = (0, ⟨ws2, es, nos⟩) := by rw [HF.out, if_neg h4]
  have HE := hide e
  clear e HF
  have h4b : (ws.length : Int) < 40 := by omega
  go_upto_region 11 with fail
  have q0 : w4.drew.cell? ⟨b, 0, none⟩ = some (.slice A ws.length c) := S4.drew.p1.cell 0 _ rfl
  have q1 : (w4.alloc (.cells #[.int .i64 y0, .string (Go.Proofs.YtanlobdidjednaaGreatDoor.S y1), .bool y2, .bool y3] 126)).drew.cell? ⟨b, 0, none⟩ = some (.slice A ws.length c) := (S4.box #[.int .i64 y0, .string (Go.Proofs.YtanlobdidjednaaGreatDoor.S y1), .bool y2, .bool y3] 126 rfl).drew.p2.cell 0 _ rfl
  refine wp_region_held_drew (S := fun w' => w'.cell? ⟨xb, 0, none⟩ = some (.int .i64 y0) ∧ w'.cell? ⟨xb, 1, none⟩ = some (.string (Go.Proofs.YtanlobdidjednaaGreatDoor.S y1)) ∧ w'.cell? ⟨xb, 2, none⟩ = some (.bool y2) ∧ w'.cell? ⟨xb, 3, none⟩ = some (.bool y3)) (by kernel_rfl) ?_ (fun hHeld => ?_)
  · exact ⟨S4.drew.cell 0 _ rfl, S4.drew.cell 1 _ rfl, S4.drew.cell 2 _ rfl, S4.drew.cell 3 _ rfl⟩
  refine wpAnyH_take (i := 0) (oi := _) (v := ?_) rfl (by kernel_rfl) (by kernel_rfl) (by kernel_rfl) (fun _ _ _ h => h) (Or.inl ⟨by rfl, ?_⟩) hHeld ?_
  rotate_left
  · intro w' hSw
    (try dsimp only at hSw)
    go_simp
    try with_reducible rfl
  try simp only [Act.put, List.setIfInBounds_toArray, List.set_cons_zero, List.set_cons_succ]
  refine wpAnyH_take (i := 1) (oi := _) (v := ?_) rfl (by kernel_rfl) (by kernel_rfl) (by kernel_rfl) (fun _ _ _ h => h) (Or.inl ⟨by rfl, ?_⟩) hHeld ?_
  rotate_left
  · intro w' hSw
    (try dsimp only at hSw)
    go_simp
    try with_reducible rfl
  try simp only [Act.put, List.setIfInBounds_toArray, List.set_cons_zero, List.set_cons_succ]
  refine wpAnyH_take (i := 2) (oi := _) (v := ?_) rfl (by kernel_rfl) (by kernel_rfl) (by kernel_rfl) (fun _ _ _ h => h) (Or.inl ⟨by rfl, ?_⟩) hHeld ?_
  rotate_left
  · intro w' hSw
    (try dsimp only at hSw)
    go_simp
    try with_reducible rfl
  try simp only [Act.put, List.setIfInBounds_toArray, List.set_cons_zero, List.set_cons_succ]
  refine wpAnyH_take (i := 3) (oi := _) (v := ?_) rfl (by kernel_rfl) (by kernel_rfl) (by kernel_rfl) (fun _ _ _ h => h) (Or.inl ⟨by rfl, ?_⟩) hHeld ?_
  rotate_left
  · intro w' hSw
    (try dsimp only at hSw)
    go_simp
    try with_reducible rfl
  try simp only [Act.put, List.setIfInBounds_toArray, List.set_cons_zero, List.set_cons_succ]
  refine wpAnyH_take (i := 5) (oi := _) (v := ?_) rfl (by kernel_rfl) (by kernel_rfl) (by kernel_rfl) (fun _ _ _ h => h) (Or.inl ⟨by rfl, ?_⟩) hHeld ?_
  rotate_left
  · intro w' hSw
    (try dsimp only at hSw)
    go_simp
    try with_reducible rfl
  try simp only [Act.put, List.setIfInBounds_toArray, List.set_cons_zero, List.set_cons_succ]
  refine wpAnyH_take (i := 6) (oi := _) (v := ?_) rfl (by kernel_rfl) (by kernel_rfl) (by kernel_rfl) (fun _ _ _ h => h) (Or.inl ⟨by rfl, ?_⟩) hHeld ?_
  rotate_left
  · intro w' hSw
    (try dsimp only at hSw)
    go_simp
    try with_reducible rfl
  try simp only [Act.put, List.setIfInBounds_toArray, List.set_cons_zero, List.set_cons_succ]
  refine wpAnyH_ready (rs := [4, 7]) (by kernel_rfl) (by simp) ?_
  refine AllReadyH.cons rfl (fun K hK => ?_) ?_
  · go_simp
    refine hK.out _ _ ?_ (fun hHeld => ?_)
    · exact ⟨S4.drew.cell 0 _ rfl, S4.drew.cell 1 _ rfl, S4.drew.cell 2 _ rfl, S4.drew.cell 3 _ rfl⟩
    clear hK K
    try simp only [Act.put, List.setIfInBounds_toArray, List.set_cons_zero, List.set_cons_succ]
    refine wpAnyH_ready (rs := [7]) (by kernel_rfl) (by simp) ?_
    refine AllReadyH.cons rfl (fun K hK => ?_) ?_
    · go_simp
      refine hK.out _ _ ?_ (fun hHeld => ?_)
      · exact ⟨(S4.box _ _ rfl).drew.p1.cell 0 _ rfl, (S4.box _ _ rfl).drew.p1.cell 1 _ rfl, (S4.box _ _ rfl).drew.p1.cell 2 _ rfl, (S4.box _ _ rfl).drew.p1.cell 3 _ rfl⟩
      clear hK K
      try simp only [Act.put, List.setIfInBounds_toArray, List.set_cons_zero, List.set_cons_succ]
      refine wpAnyH_ready (rs := [8]) (by kernel_rfl) (by simp) ?_
      refine AllReadyH.cons rfl (fun K hK => ?_) ?_
      · go_simp
        go_at_call 98
        refine (HIN.out _ _ _ ((S4.drew.box #[.int .i64 y0, .string (Go.Proofs.YtanlobdidjednaaGreatDoor.S y1), .bool y2, .bool y3] 126 rfl).p5.p1)).mono ?_
        rintro e w6 ⟨v', rfl, S6⟩
        obtain ⟨A6, c6, rfl, -⟩ := S6.row.form
        have z0 := S6.p2.cell 0 _ rfl
        have z1 := S6.p2.cells_fz 0
        go_wp2_with fail
        refine hK.out _ _ ?_ (fun hHeld => ?_)
        · exact ⟨S6.p1.cell 0 _ rfl, S6.p1.cell 1 _ rfl, S6.p1.cell 2 _ rfl, S6.p1.cell 3 _ rfl⟩
        clear hK K
        try simp only [Act.put, List.setIfInBounds_toArray, List.set_cons_zero, List.set_cons_succ]
        refine wpAnyH_take (i := 9) (oi := _) (v := ?_) rfl (by kernel_rfl) (by kernel_rfl) (by kernel_rfl) (fun _ _ _ h => h) (Or.inl ⟨by rfl, ?_⟩) hHeld ?_
        rotate_left
        · intro w' hSw
          (try dsimp only at hSw)
          go_simp
          try with_reducible rfl
        try simp only [Act.put, List.setIfInBounds_toArray, List.set_cons_zero, List.set_cons_succ]
        refine wpAnyH_take (i := 10) (oi := _) (v := ?_) rfl (by kernel_rfl) (by kernel_rfl) (by kernel_rfl) (fun _ _ _ h => h) (Or.inl ⟨by rfl, ?_⟩) hHeld ?_
        rotate_left
        · intro w' hSw
          (try dsimp only at hSw)
          go_simp
          try with_reducible rfl
        try simp only [Act.put, List.setIfInBounds_toArray, List.set_cons_zero, List.set_cons_succ]
        refine wpAnyH_ready (rs := [11]) (by kernel_rfl) (by simp) ?_
        refine AllReadyH.cons rfl (fun K hK => ?_) ?_
        · go_simp
          refine hK.out _ _ ?_ (fun hHeld => ?_)
          · exact ⟨((S6.p2.setc 0 _).p2).cell 0 _ rfl, ((S6.p2.setc 0 _).p2).cell 1 _ rfl, ((S6.p2.setc 0 _).p2).cell 2 _ rfl, ((S6.p2.setc 0 _).p2).cell 3 _ rfl⟩
          clear hK K
          try simp only [Act.put, List.setIfInBounds_toArray, List.set_cons_zero, List.set_cons_succ]
          refine wpAnyH_done (by kernel_rfl) ?_ _
          have S8 : Sat g _ (cellsA b 118 #[.slice A6 (ws.length + 1) c6, ev, .map (some m)] :: _) := S6.p2.setc 0 (.slice A6 (ws.length + 1) c6)
          clear z0 z1 q0 q1
          go_wp2_with fail
          go_ret
          refine HR.out _ HE.out _ ?_
          have S9 : Sat g (w6.setCell ⟨b, 0, none⟩ (.slice A6 (ws.length + 1) c6)) (cellsA b 118 #[.slice A6 (ws.length + 1) c6, ev, .map (some m)] :: rowA 95 5 ev es.length (es.flatMap evC) :: mapA kW kW m nos :: rowA 126 4 (.slice A6 (ws.length + 1) c6) ws2.length (ws2.flatMap watC) :: L) := by
            rw [HLL.out]
            exact (S8.p2.drop).p1.b3
          exact Sat.bookShut (B := ⟨ws2, es, nos⟩) S9.notesShut
        exact AllReadyH.nil
      exact AllReadyH.nil
    exact AllReadyH.nil
  refine AllReadyH.cons rfl (fun K hK => ?_) ?_
  · go_simp
    refine hK.out _ _ ?_ (fun hHeld => ?_)
    · exact ⟨(S4.box _ _ rfl).drew.p1.cell 0 _ rfl, (S4.box _ _ rfl).drew.p1.cell 1 _ rfl, (S4.box _ _ rfl).drew.p1.cell 2 _ rfl, (S4.box _ _ rfl).drew.p1.cell 3 _ rfl⟩
    clear hK K
    try simp only [Act.put, List.setIfInBounds_toArray, List.set_cons_zero, List.set_cons_succ]
    refine wpAnyH_ready (rs := [4]) (by kernel_rfl) (by simp) ?_
    refine AllReadyH.cons rfl (fun K hK => ?_) ?_
    · go_simp
      refine hK.out _ _ ?_ (fun hHeld => ?_)
      · exact ⟨(S4.box _ _ rfl).drew.p1.cell 0 _ rfl, (S4.box _ _ rfl).drew.p1.cell 1 _ rfl, (S4.box _ _ rfl).drew.p1.cell 2 _ rfl, (S4.box _ _ rfl).drew.p1.cell 3 _ rfl⟩
      clear hK K
      try simp only [Act.put, List.setIfInBounds_toArray, List.set_cons_zero, List.set_cons_succ]
      refine wpAnyH_ready (rs := [8]) (by kernel_rfl) (by simp) ?_
      refine AllReadyH.cons rfl (fun K hK => ?_) ?_
      · go_simp
        go_at_call 98
        refine (HIN.out _ _ _ ((S4.drew.box #[.int .i64 y0, .string (Go.Proofs.YtanlobdidjednaaGreatDoor.S y1), .bool y2, .bool y3] 126 rfl).p5.p1)).mono ?_
        rintro e w6 ⟨v', rfl, S6⟩
        obtain ⟨A6, c6, rfl, -⟩ := S6.row.form
        have z0 := S6.p2.cell 0 _ rfl
        have z1 := S6.p2.cells_fz 0
        go_wp2_with fail
        refine hK.out _ _ ?_ (fun hHeld => ?_)
        · exact ⟨S6.p1.cell 0 _ rfl, S6.p1.cell 1 _ rfl, S6.p1.cell 2 _ rfl, S6.p1.cell 3 _ rfl⟩
        clear hK K
        try simp only [Act.put, List.setIfInBounds_toArray, List.set_cons_zero, List.set_cons_succ]
        refine wpAnyH_take (i := 9) (oi := _) (v := ?_) rfl (by kernel_rfl) (by kernel_rfl) (by kernel_rfl) (fun _ _ _ h => h) (Or.inl ⟨by rfl, ?_⟩) hHeld ?_
        rotate_left
        · intro w' hSw
          (try dsimp only at hSw)
          go_simp
          try with_reducible rfl
        try simp only [Act.put, List.setIfInBounds_toArray, List.set_cons_zero, List.set_cons_succ]
        refine wpAnyH_take (i := 10) (oi := _) (v := ?_) rfl (by kernel_rfl) (by kernel_rfl) (by kernel_rfl) (fun _ _ _ h => h) (Or.inl ⟨by rfl, ?_⟩) hHeld ?_
        rotate_left
        · intro w' hSw
          (try dsimp only at hSw)
          go_simp
          try with_reducible rfl
        try simp only [Act.put, List.setIfInBounds_toArray, List.set_cons_zero, List.set_cons_succ]
        refine wpAnyH_ready (rs := [11]) (by kernel_rfl) (by simp) ?_
        refine AllReadyH.cons rfl (fun K hK => ?_) ?_
        · go_simp
          refine hK.out _ _ ?_ (fun hHeld => ?_)
          · exact ⟨((S6.p2.setc 0 _).p2).cell 0 _ rfl, ((S6.p2.setc 0 _).p2).cell 1 _ rfl, ((S6.p2.setc 0 _).p2).cell 2 _ rfl, ((S6.p2.setc 0 _).p2).cell 3 _ rfl⟩
          clear hK K
          try simp only [Act.put, List.setIfInBounds_toArray, List.set_cons_zero, List.set_cons_succ]
          refine wpAnyH_done (by kernel_rfl) ?_ _
          have S8 : Sat g _ (cellsA b 118 #[.slice A6 (ws.length + 1) c6, ev, .map (some m)] :: _) := S6.p2.setc 0 (.slice A6 (ws.length + 1) c6)
          clear z0 z1 q0 q1
          go_wp2_with fail
          go_ret
          refine HR.out _ HE.out _ ?_
          have S9 : Sat g (w6.setCell ⟨b, 0, none⟩ (.slice A6 (ws.length + 1) c6)) (cellsA b 118 #[.slice A6 (ws.length + 1) c6, ev, .map (some m)] :: rowA 95 5 ev es.length (es.flatMap evC) :: mapA kW kW m nos :: rowA 126 4 (.slice A6 (ws.length + 1) c6) ws2.length (ws2.flatMap watC) :: L) := by
            rw [HLL.out]
            exact (S8.p2.drop).p1.b3
          exact Sat.bookShut (B := ⟨ws2, es, nos⟩) S9.notesShut
        exact AllReadyH.nil
      exact AllReadyH.nil
    exact AllReadyH.nil
  exact AllReadyH.nil
end

section
set_option linter.unusedVariables false
set_option linter.unusedSimpArgs false
theorem bl_irr (x : List UInt8) : Op.bytesLess x x = false := by
  induction x with
  | nil => rfl
  | cons a x ih =>
    have : ¬ a < a := UInt8.lt_irrefl a
    simp [Op.bytesLess, ih, this]
theorem bl_tri (x y : List UInt8) : Op.bytesLess x y = false → x ≠ y → Op.bytesLess y x = true := by
  induction x generalizing y with
  | nil =>
    intro h hn
    cases y with
    | nil => exact absurd rfl hn
    | cons b y => simp [Op.bytesLess] at h
  | cons a x ih =>
    intro h hn
    cases y with
    | nil => rfl
    | cons b y =>
      simp only [Op.bytesLess, Bool.or_eq_false_iff, decide_eq_false_iff_not, Bool.and_eq_false_iff, beq_eq_false_iff_ne] at h
      obtain ⟨h1, h2⟩ := h
      by_cases hab : a = b
      · subst hab
        have h3 := ih y (h2.resolve_left (by simp)) (fun e => hn (by rw [e]))
        simp [Op.bytesLess, h3]
      · have h4 : b < a := by
          rw [UInt8.lt_iff_toNat_lt] at h1 ⊢
          have : a.toNat ≠ b.toNat := fun e => hab (UInt8.toNat.inj e)
          omega
        simp [Op.bytesLess, h4]
theorem bl_trans (x y z : List UInt8) : Op.bytesLess x y = true → Op.bytesLess y z = true → Op.bytesLess x z = true := by
  induction x generalizing y z with
  | nil =>
    intro h1 h2
    cases z with
    | nil => cases y <;> simp [Op.bytesLess] at h2
    | cons c z => rfl
  | cons a x ih =>
    intro h1 h2
    cases y with
    | nil => simp [Op.bytesLess] at h1
    | cons b y =>
      cases z with
      | nil => simp [Op.bytesLess] at h2
      | cons c z =>
        simp only [Op.bytesLess, Bool.or_eq_true, decide_eq_true_eq, Bool.and_eq_true, beq_iff_eq] at h1 h2 ⊢
        simp only [UInt8.lt_iff_toNat_lt] at h1 h2 ⊢
        rcases h1 with h1 | ⟨rfl, h1⟩
        · rcases h2 with h2 | ⟨rfl, h2⟩
          · exact .inl (by omega)
          · exact .inl h1
        · rcases h2 with h2 | ⟨rfl, h2⟩
          · exact .inl h2
          · exact .inr ⟨rfl, ih y z h1 h2⟩
theorem bl_asym (x y : List UInt8) (h : Op.bytesLess x y = true) : Op.bytesLess y x = false := by
  cases h2 : Op.bytesLess y x with
  | false => rfl
  | true =>
    have := bl_trans x y x h h2
    rw [bl_irr] at this
    cases this

theorem cmpI_val (a b : Int) : (a < b ∧ cmpI a b = -1) ∨ (a = b ∧ cmpI a b = 0) ∨ (b < a ∧ cmpI a b = 1) := by
  unfold cmpI
  split
  · exact .inl ⟨by assumption, rfl⟩
  · split
    · exact .inr (.inr ⟨by assumption, rfl⟩)
    · exact .inr (.inl ⟨by omega, rfl⟩)
theorem cmpS_val (a b : List UInt8) : (Op.bytesLess a b = true ∧ cmpS a b = -1) ∨ (a = b ∧ cmpS a b = 0) ∨ (Op.bytesLess b a = true ∧ cmpS a b = 1) := by
  unfold cmpS
  by_cases h1 : Op.bytesLess a b = true
  · exact .inl ⟨h1, by rw [if_pos h1]⟩
  · rw [if_neg h1]
    by_cases h2 : a = b
    · exact .inr (.inl ⟨h2, by rw [if_pos h2]⟩)
    · exact .inr (.inr ⟨bl_tri a b (by simpa using h1) h2, by rw [if_neg h2]⟩)
theorem oneF_inj (a b : Bool) : oneF a = oneF b ↔ a = b := by cases a <;> cases b <;> simp [oneF]
theorem ordF_val (x y : WatT) : ∃ c1 c2 c3 c4 : Int, ordF x y = (if c1 ≠ 0 then c1 else if c2 ≠ 0 then c2 else if c3 ≠ 0 then c3 else c4) ∧ c1 = cmpI x.session y.session ∧ c2 = cmpS x.path y.path ∧ c3 = cmpI (oneF x.kids) (oneF y.kids) ∧ c4 = cmpI (oneF x.once) (oneF y.once) := by
  refine ⟨_, _, _, _, ?_, rfl, rfl, rfl, rfl⟩
  simp only [ordF, orF]
  generalize cmpI x.session y.session = c1
  generalize cmpS x.path y.path = c2
  generalize cmpI (oneF x.kids) (oneF y.kids) = c3
  generalize cmpI (oneF x.once) (oneF y.once) = c4
  by_cases h1 : c1 = 0 <;> by_cases h2 : c2 = 0 <;> by_cases h3 : c3 = 0 <;> by_cases h4 : c4 = 0 <;> simp [h1, h2, h3, h4]
theorem ord_zero (x y : WatT) : ordF x y = 0 ↔ x = y := by
  obtain ⟨c1, c2, c3, c4, e, h1, h2, h3, h4⟩ := ordF_val x y
  obtain ⟨s1, p1, k1, o1⟩ := x
  obtain ⟨s2, p2, k2, o2⟩ := y
  simp only at h1 h2 h3 h4
  have v1 := cmpI_val s1 s2
  have v2 := cmpS_val p1 p2
  have v3 := cmpI_val (oneF k1) (oneF k2)
  have v4 := cmpI_val (oneF o1) (oneF o2)
  rw [← h1] at v1
  rw [← h2] at v2
  rw [← h3] at v3
  rw [← h4] at v4
  constructor
  · intro h0
    rw [e] at h0
    have a1 : c1 = 0 := by split at h0 <;> omega
    rw [if_neg (by omega)] at h0
    have a2 : c2 = 0 := by split at h0 <;> omega
    rw [if_neg (by omega)] at h0
    have a3 : c3 = 0 := by split at h0 <;> omega
    rw [if_neg (by omega)] at h0
    have b1 : s1 = s2 := by omega
    have b2 : p1 = p2 := by
      rcases v2 with ⟨_, h⟩ | ⟨h, _⟩ | ⟨_, h⟩
      · omega
      · exact h
      · omega
    have b3 : oneF k1 = oneF k2 := by omega
    have b4 : oneF o1 = oneF o2 := by omega
    rw [oneF_inj] at b3 b4
    subst b1 b2 b3 b4
    rfl
  · intro h0
    injection h0 with b1 b2 b3 b4
    subst b1 b2 b3 b4
    rw [e]
    have a1 : c1 = 0 := by omega
    have a2 : c2 = 0 := by
      rcases v2 with ⟨h, _⟩ | ⟨_, h⟩ | ⟨h, _⟩
      · rw [bl_irr] at h; cases h
      · exact h
      · rw [bl_irr] at h; cases h
    have a3 : c3 = 0 := by omega
    have a4 : c4 = 0 := by omega
    simp [a1, a2, a3, a4]
theorem cmpS_trans (x y z : List UInt8) : (cmpS x y = 0 → cmpS x z = cmpS y z) ∧ (cmpS y z = 0 → cmpS x z = cmpS x y) ∧ (cmpS x y < 0 → cmpS y z < 0 → cmpS x z < 0) := by
  have h1 := cmpS_val x y
  have h2 := cmpS_val y z
  refine ⟨fun h => ?_, fun h => ?_, fun h3 h4 => ?_⟩
  · rcases h1 with ⟨_, e⟩ | ⟨rfl, _⟩ | ⟨_, e⟩
    · omega
    · rfl
    · omega
  · rcases h2 with ⟨_, e⟩ | ⟨rfl, _⟩ | ⟨_, e⟩
    · omega
    · rfl
    · omega
  · have a : Op.bytesLess x y = true := by
      rcases h1 with ⟨h, _⟩ | ⟨_, e⟩ | ⟨_, e⟩
      · exact h
      · omega
      · omega
    have b : Op.bytesLess y z = true := by
      rcases h2 with ⟨h, _⟩ | ⟨_, e⟩ | ⟨_, e⟩
      · exact h
      · omega
      · omega
    unfold cmpS
    rw [if_pos (bl_trans _ _ _ a b)]
    decide
theorem cmpI_trans (x y z : Int) : (cmpI x y = 0 → cmpI x z = cmpI y z) ∧ (cmpI y z = 0 → cmpI x z = cmpI x y) ∧ (cmpI x y < 0 → cmpI y z < 0 → cmpI x z < 0) := by
  have h1 := cmpI_val x y
  have h2 := cmpI_val y z
  have h3 := cmpI_val x z
  refine ⟨fun h => by omega, fun h => by omega, fun h h' => by omega⟩
theorem lex_neg {a b c r s t : Int} (t1 : a = 0 → c = b) (t2 : b = 0 → c = a) (t3 : a < 0 → b < 0 → c < 0) (hr : r < 0 → s < 0 → t < 0) (h1 : (if a ≠ 0 then a else r) < 0) (h2 : (if b ≠ 0 then b else s) < 0) : (if c ≠ 0 then c else t) < 0 := by
  split at h1 <;> split at h2 <;> split <;> omega
theorem lex_anti {a r s : Int} (h : s = -r) : (if -a ≠ 0 then -a else s) = -(if a ≠ 0 then a else r) := by
  split <;> split <;> omega
theorem cmpI_anti (x y : Int) : cmpI y x = - cmpI x y := by
  have h1 := cmpI_val x y
  have h2 := cmpI_val y x
  omega
theorem cmpS_anti (x y : List UInt8) : cmpS y x = - cmpS x y := by
  have h2 := cmpS_val x y
  rcases h2 with ⟨h, e⟩ | ⟨rfl, e⟩ | ⟨h, e⟩
  · rw [e]
    unfold cmpS
    rw [if_neg (by rw [bl_asym _ _ h]; simp), if_neg (fun e => by subst e; rw [bl_irr] at h; cases h)]
    decide
  · rw [e]; decide
  · rw [e]
    unfold cmpS
    rw [if_pos h]
theorem take_tw {α : Type} (p : α → Bool) (ws : List α) : ws.take (ws.takeWhile p).length = ws.takeWhile p := by
  induction ws with
  | nil => rfl
  | cons a r ih =>
    by_cases h : p a = true
    · simp [List.takeWhile_cons, h, ih]
    · simp [List.takeWhile_cons, h]
theorem mem_tw {α : Type} (p : α → Bool) (ws : List α) : ∀ q ∈ ws.takeWhile p, p q = true := by
  induction ws with
  | nil => intro q h; cases h
  | cons a r ih =>
    intro q hq
    by_cases h : p a = true
    · rw [List.takeWhile_cons, if_pos h] at hq
      rcases List.mem_cons.1 hq with rfl | hq
      · exact h
      · exact ih q hq
    · rw [List.takeWhile_cons, if_neg h] at hq
      cases hq
theorem low_here (ws : List WatT) (x : WatT) (hlt : lowF ws x < ws.length) : ¬ ordF ws[lowF ws x] x < 0 := by
  intro h0
  unfold lowF at hlt h0
  generalize hp : (fun q => decide (ordF q x < 0)) = p at *
  have h1 : p ws[(ws.takeWhile p).length] = true := (congrFun hp _).symm.trans (decide_eq_true h0)
  have h2 : (ws.dropWhile p) ≠ [] := by
    intro e
    have := congrArg List.length (List.takeWhile_append_dropWhile (p := p) (l := ws))
    rw [e] at this
    simp at this
    omega
  have h3 : ws[(ws.takeWhile p).length] = (ws.dropWhile p).head h2 := by
    have e : ws = ws.takeWhile p ++ ws.dropWhile p := (List.takeWhile_append_dropWhile).symm
    have : (ws.takeWhile p ++ ws.dropWhile p)[(ws.takeWhile p).length]? = some ((ws.dropWhile p).head h2) := by
      rw [List.getElem?_append_right (Nat.le_refl _), Nat.sub_self, ← List.head?_eq_getElem?, List.head?_eq_some_head h2]
    rw [← e, List.getElem?_eq_getElem hlt] at this
    injection this
  rw [h3] at h1
  have := List.head_dropWhile_not p h2
  rw [h1] at this
  cases this
theorem ord_trans {x y z : WatT} (hxy : ordF x y < 0) (hyz : ordF y z < 0) : ordF x z < 0 := by
  obtain ⟨a1, a2, a3, a4, e1, h1, h2, h3, h4⟩ := ordF_val x y
  obtain ⟨b1, b2, b3, b4, e2, g1, g2, g3, g4⟩ := ordF_val y z
  obtain ⟨c1, c2, c3, c4, e3, i1, i2, i3, i4⟩ := ordF_val x z
  have t1 := cmpI_trans x.session y.session z.session
  have t2 := cmpS_trans x.path y.path z.path
  have t3 := cmpI_trans (oneF x.kids) (oneF y.kids) (oneF z.kids)
  have t4 := cmpI_trans (oneF x.once) (oneF y.once) (oneF z.once)
  rw [← h1, ← g1, ← i1] at t1
  rw [← h2, ← g2, ← i2] at t2
  rw [← h3, ← g3, ← i3] at t3
  rw [← h4, ← g4, ← i4] at t4
  rw [e1] at hxy
  rw [e2] at hyz
  rw [e3]
  clear e1 e2 e3 h1 h2 h3 h4 g1 g2 g3 g4 i1 i2 i3 i4
  obtain ⟨t11, t12, t13⟩ := t1
  obtain ⟨t21, t22, t23⟩ := t2
  obtain ⟨t31, t32, t33⟩ := t3
  obtain ⟨t41, t42, t43⟩ := t4
  exact lex_neg t11 t12 t13 (lex_neg t21 t22 t23 (lex_neg t31 t32 t33 t43)) hxy hyz
theorem ord_anti (x y : WatT) : ordF x y < 0 ∨ x = y ∨ ordF y x < 0 := by
  obtain ⟨a1, a2, a3, a4, e1, h1, h2, h3, h4⟩ := ordF_val x y
  obtain ⟨b1, b2, b3, b4, e2, g1, g2, g3, g4⟩ := ordF_val y x
  by_cases h0 : ordF x y = 0
  · exact .inr (.inl ((ord_zero x y).1 h0))
  have v1 := cmpI_anti x.session y.session
  have v2 := cmpS_anti x.path y.path
  have v3 := cmpI_anti (oneF x.kids) (oneF y.kids)
  have v4 := cmpI_anti (oneF x.once) (oneF y.once)
  rw [← h1, ← g1] at v1
  rw [← h2, ← g2] at v2
  rw [← h3, ← g3] at v3
  rw [← h4, ← g4] at v4
  have e : ordF y x = - ordF x y := by
    rw [e1, e2, v1, v2, v3, v4]
    exact lex_anti (lex_anti (lex_anti rfl))
  omega
theorem ord_asym {x y : WatT} (h : ordF x y < 0) : ¬ ordF y x < 0 := fun h2 => by
  have h3 := ord_trans h h2
  rw [(ord_zero x x).2 rfl] at h3
  omega

/-- in order -/
def SortedW (ws : List WatT) : Prop := ws.Pairwise fun p q => ordF p q < 0
theorem SortedW.parts {ws : List WatT} (h : SortedW ws) (x : WatT) : Parts ws x := by
  intro a b p q hab hp hq hx
  rcases Nat.eq_or_lt_of_le hab with rfl | hlt
  · rw [hp] at hq
    injection hq with hq
    rw [hq]
    exact hx
  · obtain ⟨ha, rfl⟩ := List.getElem?_eq_some_iff.1 hp
    obtain ⟨hb, rfl⟩ := List.getElem?_eq_some_iff.1 hq
    exact ord_trans (List.pairwise_iff_getElem.1 h a b ha hb hlt) hx
theorem there_iff {ws : List WatT} (h : SortedW ws) (x : WatT) : thereF ws x = true ↔ x ∈ ws := by
  unfold thereF
  constructor
  · intro h1
    split at h1
    · rename_i q hq
      have := (ord_zero q x).1 (of_decide_eq_true h1)
      subst this
      exact List.mem_of_getElem? hq
    · cases h1
  · intro h1
    obtain ⟨i, hi, rfl⟩ := List.getElem_of_mem h1
    have e : lowF ws ws[i] = i := by
      refine low_at (Nat.le_of_lt hi) (fun t q ht hq => ?_) (fun q hq => ?_)
      · obtain ⟨h2, rfl⟩ := List.getElem?_eq_some_iff.1 hq
        exact List.pairwise_iff_getElem.1 h t i h2 hi ht
      · rw [List.getElem?_eq_getElem hi] at hq
        injection hq with hq
        rw [← hq, (ord_zero _ _).2 rfl]
        decide
    rw [e, List.getElem?_eq_getElem hi]
    exact decide_eq_true ((ord_zero _ _).2 rfl)
/-- where a watch that is not there stands: those ahead of it, those behind it -/
theorem low_split {ws : List WatT} (h : SortedW ws) {x : WatT} (hx : x ∉ ws) : (∀ q ∈ ws.take (lowF ws x), ordF q x < 0) ∧ (∀ q ∈ ws.drop (lowF ws x), ordF x q < 0) := by
  have ha : ∀ q ∈ ws.take (lowF ws x), ordF q x < 0 := by
    intro q hq
    unfold lowF at hq
    rw [take_tw] at hq
    exact of_decide_eq_true (mem_tw _ ws q hq)
  refine ⟨ha, fun q hq => ?_⟩
  have hmem : q ∈ ws := List.mem_of_mem_drop hq
  rcases ord_anti q x with h1 | h1 | h1
  · exfalso
    have hne : ws.drop (lowF ws x) ≠ [] := fun e => by rw [e] at hq; cases hq
    have hlt : lowF ws x < ws.length := by
      rcases Nat.lt_or_ge (lowF ws x) ws.length with h2 | h2
      · exact h2
      · exact absurd (List.drop_eq_nil_of_le h2) hne
    have hd : ¬ ordF ws[lowF ws x] x < 0 := low_here ws x hlt
    obtain ⟨j, hj, rfl⟩ := List.getElem_of_mem hq
    rw [List.length_drop] at hj
    rw [List.getElem_drop] at h1
    exact hd (h.parts x (lowF ws x) (lowF ws x + j) _ _ (Nat.le_add_right _ _) (List.getElem?_eq_getElem hlt) (List.getElem?_eq_getElem (by omega)) h1)
  · subst h1
    exact absurd hmem hx
  · exact h1
theorem SortedW.ins {ws : List WatT} (h : SortedW ws) {x : WatT} (hx : x ∉ ws) : SortedW (ws.take (lowF ws x) ++ [x] ++ ws.drop (lowF ws x)) := by
  obtain ⟨h1, h2⟩ := low_split h hx
  unfold SortedW
  rw [List.append_assoc, List.pairwise_append]
  refine ⟨h.sublist (List.take_sublist _ _), ?_, ?_⟩
  · rw [List.singleton_append, List.pairwise_cons]
    exact ⟨h2, h.sublist (List.drop_sublist _ _)⟩
  · intro a ha b hb
    simp only [List.singleton_append, List.mem_cons] at hb
    rcases hb with rfl | hb
    · exact h1 a ha
    · exact ord_trans (h1 a ha) (h2 b hb)
theorem SortedW.filter {ws : List WatT} (h : SortedW ws) (p : WatT → Bool) : SortedW (ws.filter p) := h.sublist List.filter_sublist
theorem SortedW.nil : SortedW [] := List.Pairwise.nil
end

section
set_option linter.unusedVariables false
set_option linter.unusedSimpArgs false
open Go.RowKit

theorem nos_nil (N : Int) (h : 0 ≤ N) : NosOk [] N := fun k => by simp [mget]; exact h
/-- what stays true: m acts so far -/
structure InvW (B : BookT) (m : Nat) : Prop where
  sorted : SortedW B.ws
  ws : B.ws.length ≤ 40
  es : B.es.length ≤ 40 * m
  nos : NosOk B.nos (40 * m)
theorem InvW.nil : InvW ⟨[], [], []⟩ 0 := ⟨SortedW.nil, by simp, by simp, nos_nil _ (by omega)⟩
theorem add_inv {B : BookT} {m : Nat} (h : InvW B m) (x : WatT) : InvW (addF B x).2 m := by
  unfold addF
  split
  · exact h
  · split
    · exact h
    · split
      · exact h
      · split
        · exact h
        · rename_i h3 h4
          refine ⟨h.sorted.ins (fun hx => h3 ((there_iff h.sorted x).2 hx)), ?_, h.es, h.nos⟩
          have := low_le B.ws x
          simp
          omega
theorem fire_inv {B : BookT} {m : Nat} (h : InvW B m) (s : List UInt8) (what when_ : Int) : InvW (fireF B s what when_) (m + 1) := by
  obtain ⟨h1, h2⟩ := notes_ok s what when_ B.ws (B.es, B.nos) h.nos
  have h3 := h.ws
  have h4 := h.es
  have h5 := List.length_filter_le (fun x => !firesP s what x) B.ws
  simp only at h2
  exact ⟨h.sorted.filter _, by simp only [fireF]; omega, by simp only [fireF]; omega, h1.mono (by omega)⟩
theorem noted_inv {B : BookT} {m : Nat} (h : InvW B m) (ss no : Int) : InvW (notedF B ss no) m := by
  have h5 := List.length_filter_le (fun x : EvT => !decide (x.session = ss ∧ x.no ≤ no)) B.es
  exact ⟨h.sorted, h.ws, Nat.le_trans h5 h.es, h.nos⟩
theorem nos_del {nos : List (Int × Int)} {N : Int} (h : NosOk nos N) (h0 : 0 ≤ N) (k : Int) : NosOk (mdel nos k) N := by
  intro j
  rw [mget_mdel]
  split
  · simp; exact h0
  · exact h j
theorem drop_inv {B : BookT} {m : Nat} (h : InvW B m) (ss : Int) : InvW (dropF B ss) m := by
  have h4 := List.length_filter_le (fun x : WatT => !decide (x.session = ss)) B.ws
  have h5 := List.length_filter_le (fun x : EvT => !decide (x.session = ss)) B.es
  exact ⟨h.sorted.filter _, Nat.le_trans h4 h.ws, Nat.le_trans h5 h.es, nos_del h.nos (by omega) ss⟩
theorem InvW.mono {B : BookT} {m n : Nat} (h : InvW B m) (hm : m ≤ n) : InvW B n := ⟨h.sorted, h.ws, by have := h.es; omega, h.nos.mono (by omega)⟩
end

end Go.Proofs.YtanlobdidjednaaGreatDoor
