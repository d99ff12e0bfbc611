/- Contracts of the package sess: a table of sessions: New, Has, Open, Close, Seen, Keep. No condition. Contracts of the package sess: all sessions' numbers, in order. No condition. Contracts of the package sess in pieces of memory: all numbers, a table as bytes, and back. No condition. Contracts of the package sess in pieces of memory: a table read from bytes. No condition. Contracts of the package sess in pieces of memory: Read. No condition. Contracts of the package sess in pieces of memory: a clone. No condition. -/
import Derived.Test.YtanlobdidjednaaGreatDoorPithM
import Derived.Test.YtanlobdidjednaaGreatDoorLow
import Derived.Shelf.SlIterI.Nil
import Derived.Shelf.SortM.Plain
import Derived.Shelf.SortM.SortNone
import Derived.Ground.GgzProg
import Derived.Ground.SlgmProg
import Derived.Test.YtanlobdidjednaaGreatDoorLays
import Derived.Test.YtanlobdidjednaaGreatDoorTook
import Derived.StillTailTactics
import Derived.Shelf.SlMaps.Clone
import Derived.Test.YtanlobdidjednaaGreatDoorLays2
namespace Go.Proofs.YtanlobdidjednaaGreatDoor
section
set_option linter.unusedVariables false
open Go.RowKit

/-- a session: its last request, and that one's answer -/
abbrev Ses := Int × List UInt8
abbrev Tab := List (Int × Ses)
abbrev kI (k : Int) : Value := .int .i64 k
abbrev evS (s : Ses) : Value := .agg #[.int .i64 s.1, .string (S s.2)]
theorem kT : KeyT Tryz.prog 3 (.int .i64) kI := ⟨Tryz.underlying3, fun _ => rfl, fun a b h => by injection h⟩
theorem zeroS (w : World) : (zeroValue 104).run Tryz.prog w = .ok (.agg #[.int .i64 0, .string ⟨#[]⟩]) w := by kernel_rfl

structure Tb (w : World) (t mb : Nat) (m : Tab) : Prop where
  box : w.heap[t]? = some (.cells #[.map (some mb)] 107 (0, 0))
  map : MapOf kI evS w mb m
theorem Tb.c0 {w t mb m} (h : Tb w t mb m) : w.cell? ⟨t, 0, none⟩ = some (.map (some mb)) := by
  have := h.box; simp [World.cell?, this]
theorem Tb.ne {w t mb m} (h : Tb w t mb m) : t ≠ mb := by
  rintro rfl
  exact h.map.isMap _ _ _ h.box
theorem Tb.kept {w w' : World} {t mb m} {F : Nat → Prop} (h : Tb w t mb m) (hk : Keeps F w w') (h1 : ¬ F t) (h2 : ¬ F mb) : Tb w' t mb m := ⟨hk.heap h.box h1, h.map.kept hk h2⟩
/-- a step that turns the map alone -/
theorem Tb.put {w w' : World} {t mb m m'} (h : Tb w t mb m) (hk : Keeps (fun k => k = mb) w w') (hm : MapOf kI evS w' mb m') : Tb w' t mb m' := ⟨hk.heap h.box h.ne, hm⟩

theorem new_sess (w : World) : Calls Tryz.prog 35 #[] w fun e w' => ∃ t mb, e = .returned (ptr t) ∧ Tb w' t mb [] ∧ w.heap.size ≤ t ∧ w.heap.size ≤ mb ∧ Keeps (fun _ => False) w w' := by
  have hmm := @run_makeMap Tryz.prog
  go_enter Tryz.func35, Tryz.ntmps35
  go_wp2_with fail
  go_ret
  refine ⟨w.heap.size + 1, w.heap.size, rfl, ⟨?_, ?_⟩, by omega, by omega, ((Keeps.refl _ w).alloc _).alloc _⟩
  · have := heap_alloc_new (w.alloc (.map #[] 0)) (.cells #[.map (some w.heap.size)] 107)
    simpa using this
  · exact (MapOf.made kI evS w).alloc _

theorem has_sess (w : World) (t mb : Nat) (m : Tab) (id : Int) (h : Tb w t mb m) :
    Calls Tryz.prog 52 #[ptr t, .int .i64 id] w fun e w' => e = .returned (.bool (decide (id ∈ keys m))) ∧ Keeps (fun _ => False) w w' := by
  have c0 := h.c0
  by_cases hid : id ∈ keys m
  · obtain ⟨v, hv⟩ := mem_keys_mget.1 hid
    have hl : (Instr.lookup 105 (.map (some mb)) (.int .i64 id) true).run Tryz.prog w = .ok (.tuple #[.agg #[.int .i64 v.1, .string (S v.2)], .bool true]) w := h.map.look_some kT Tryz.underlying105 hv true
    have e : decide (id ∈ keys m) = true := by simpa using hid
    rw [e]
    clear e hid hv
    have H := hide h
    clear h
    go_enter Tryz.func52, Tryz.ntmps52
    go_wp2_with fail
    go_ret
    exact ⟨rfl, (Keeps.refl _ w).alloc _⟩
  · have hl : (Instr.lookup 105 (.map (some mb)) (.int .i64 id) true).run Tryz.prog w = .ok (.tuple #[.agg #[.int .i64 0, .string ⟨#[]⟩], .bool false]) w := h.map.look_none kT Tryz.underlying105 (mget_none.2 hid) (zeroS w) true
    have e : decide (id ∈ keys m) = false := by simpa using hid
    rw [e]
    clear e hid
    have H := hide h
    clear h
    go_enter Tryz.func52, Tryz.ntmps52
    go_wp2_with fail
    go_ret
    exact ⟨rfl, (Keeps.refl _ w).alloc _⟩

def openF (m : Tab) (id : Int) : Int × Tab :=
  if id < 1 ∨ 281474976710655 < id then (1, m) else if id ∈ keys m then (12, m) else if 16 ≤ m.length then (16, m) else (0, mput m id (0, []))

set_option maxRecDepth 100000 in
theorem open_sess (w : World) (t mb : Nat) (m : Tab) (id : Int) (h : Tb w t mb m) :
    Calls Tryz.prog 62 #[ptr t, .int .i64 id] w fun e w' => e = .returned (.int .i64 (openF m id).1) ∧ Tb w' t mb (openF m id).2 ∧ Keeps (fun k => k = mb) w w' := by
  have hh := has_sess w t mb m id h
  by_cases h1 : id < 1
  · have e : openF m id = (1, m) := by simp [openF, h1]
    rw [e]
    clear hh e
    have H := hide h
    clear h
    go_enter Tryz.func62, Tryz.ntmps62
    go_wp2_with fail
    go_ret
    exact ⟨rfl, H.out, Keeps.refl _ w⟩
  · by_cases h2 : 281474976710655 < id
    · have e : openF m id = (1, m) := by simp [openF, h2]
      rw [e]
      clear hh e
      have H := hide h
      clear h
      go_enter Tryz.func62, Tryz.ntmps62
      go_wp2_with fail
      go_ret
      exact ⟨rfl, H.out, Keeps.refl _ w⟩
    · by_cases h3 : id ∈ keys m
      · have e : openF m id = (12, m) := by
          unfold openF
          rw [if_neg (by omega), if_pos h3]
        rw [e]
        simp only [h3, decide_true] at hh
        clear e h3
        have H := hide h
        clear h
        go_enter Tryz.func62, Tryz.ntmps62
        go_wp2_with fail
        refine hh.mono ?_
        rintro e w1 ⟨rfl, hk1⟩
        go_wp2_with fail
        go_ret
        exact ⟨rfl, H.out.kept hk1 (fun h => h) (fun h => h), hk1.mono fun _ _ h => h.elim⟩
      · simp only [h3, decide_false] at hh
        by_cases h4 : 16 ≤ m.length
        · have e : openF m id = (16, m) := by
            unfold openF
            rw [if_neg (by omega), if_neg h3, if_pos h4]
          rw [e]
          clear e h3
          have H := hide h
          clear h
          go_enter Tryz.func62, Tryz.ntmps62
          go_wp2_with fail
          refine hh.mono ?_
          rintro e w1 ⟨rfl, hk1⟩
          have hT := H.out.kept hk1 (fun h => h) (fun h => h)
          have c0 := hT.c0
          have hlen := fun ty => hT.map.len (ty := ty) Tryz.underlying105
          have HT := hide hT
          clear hT
          go_wp2_with fail
          go_ret
          exact ⟨rfl, HT.out, hk1.mono fun _ _ h => h.elim⟩
        · have e : openF m id = (0, mput m id (0, [])) := by
            unfold openF
            rw [if_neg (by omega), if_neg h3, if_neg h4]
          rw [e]
          clear e h3
          have H := hide h
          clear h
          go_enter Tryz.func62, Tryz.ntmps62
          go_wp2_with fail
          refine hh.mono ?_
          rintro e w1 ⟨rfl, hk1⟩
          have hT := H.out.kept hk1 (fun h => h) (fun h => h)
          have c0 := hT.c0
          have hlen := fun ty => hT.map.len (ty := ty) Tryz.underlying105
          obtain ⟨w2, hput, hm2, hk2⟩ := hT.map.update kT Tryz.underlying105 id (0, [])
          have hput' : (Instr.mapUpdate 105 (.map (some mb)) (.int .i64 id) (.agg #[.int .i64 0, .string ⟨#[]⟩])).run Tryz.prog w1 = .ok () w2 := hput
          have HT := hide hT
          clear hT hput
          have hb4 : m.length < 16 := by omega
          go_wp2_with fail
          go_ret
          exact ⟨rfl, HT.out.put hk2 hm2, (hk1.mono fun _ _ h => h.elim).trans' hk2⟩

def closeF (m : Tab) (id : Int) : Int × Tab := if id ∈ keys m then (0, mdel m id) else (17, m)

theorem close_sess (w : World) (t mb : Nat) (m : Tab) (id : Int) (h : Tb w t mb m) :
    Calls Tryz.prog 79 #[ptr t, .int .i64 id] w fun e w' => e = .returned (.int .i64 (closeF m id).1) ∧ Tb w' t mb (closeF m id).2 ∧ Keeps (fun k => k = mb) w w' := by
  have hh := has_sess w t mb m id h
  by_cases h3 : id ∈ keys m
  · have e : closeF m id = (0, mdel m id) := by simp only [closeF, h3, if_true]
    rw [e]
    simp only [h3, decide_true] at hh
    clear e h3
    have H := hide h
    clear h
    go_enter Tryz.func79, Tryz.ntmps79
    go_wp2_with fail
    refine hh.mono ?_
    rintro e w1 ⟨rfl, hk1⟩
    have hT := H.out.kept hk1 (fun h => h) (fun h => h)
    have c0 := hT.c0
    obtain ⟨w2, hdel, hm2, hk2⟩ := hT.map.delete (ty := 0) (t2 := 3) kT Tryz.underlying105 id
    have hdel' : ∀ ty, (Builtin.delete_ #[105, 3] ty #[.map (some mb), .int .i64 id]).run Tryz.prog w1 = .ok (.tuple #[]) w2 := fun _ => hdel
    have HT := hide hT
    clear hT hdel
    go_wp2_with fail
    go_ret
    exact ⟨rfl, HT.out.put hk2 hm2, (hk1.mono fun _ _ h => h.elim).trans' hk2⟩
  · have e : closeF m id = (17, m) := by simp only [closeF, h3, if_false]
    rw [e]
    simp only [h3, decide_false] at hh
    clear e h3
    have H := hide h
    clear h
    go_enter Tryz.func79, Tryz.ntmps79
    go_wp2_with fail
    refine hh.mono ?_
    rintro e w1 ⟨rfl, hk1⟩
    go_wp2_with fail
    go_ret
    exact ⟨rfl, H.out.kept hk1 (fun h => h) (fun h => h), hk1.mono fun _ _ h => h.elim⟩

def seenF (m : Tab) (id req : Int) : List UInt8 × Bool × Int :=
  match mget m id with
  | none => ([], false, 17)
  | some s => if req < 1 ∨ 281474976710655 < req then ([], false, 1) else if req < s.1 then ([], false, 18) else if req = s.1 then (s.2, true, 0) else ([], false, 0)
abbrev seenV (r : List UInt8 × Bool × Int) : Value := .tuple #[.string (S r.1), .bool r.2.1, .int .i64 r.2.2]

set_option maxRecDepth 100000 in
theorem seen_sess (w : World) (t mb : Nat) (m : Tab) (id req : Int) (h : Tb w t mb m) :
    Calls Tryz.prog 29 #[ptr t, .int .i64 id, .int .i64 req] w fun e w' => e = .returned (seenV (seenF m id req)) ∧ Keeps (fun _ => False) w w' := by
  have hh := has_sess w t mb m id h
  cases hg : mget m id with
  | none =>
    have e : seenF m id req = ([], false, 17) := by simp only [seenF, hg]
    rw [e]
    have h3 : id ∉ keys m := mget_none.1 hg
    simp only [h3, decide_false] at hh
    clear e h3 hg
    have H := hide h
    clear h
    go_enter Tryz.func29, Tryz.ntmps29
    go_wp2_with fail
    refine hh.mono ?_
    rintro e w1 ⟨rfl, hk1⟩
    go_wp2_with fail
    go_ret3
    exact ⟨rfl, hk1⟩
  | some s =>
    have h3 : id ∈ keys m := mem_keys_mget.2 ⟨s, hg⟩
    simp only [h3, decide_true] at hh
    clear h3
    have HG := hide hg
    clear hg
    obtain ⟨r, a⟩ := s
    have H := hide h
    clear h
    by_cases h1 : req < 1
    · have e : seenF m id req = ([], false, 1) := by simp only [seenF, HG.out, h1, true_or, if_true]
      rw [e]
      clear e
      go_enter Tryz.func29, Tryz.ntmps29
      go_wp2_with fail
      refine hh.mono ?_
      rintro e w1 ⟨rfl, hk1⟩
      go_wp2_with fail
      go_ret3
      exact ⟨rfl, hk1⟩
    · by_cases h2 : 281474976710655 < req
      · have e : seenF m id req = ([], false, 1) := by simp only [seenF, HG.out, h2, or_true, if_true]
        rw [e]
        clear e
        go_enter Tryz.func29, Tryz.ntmps29
        go_wp2_with fail
        refine hh.mono ?_
        rintro e w1 ⟨rfl, hk1⟩
        go_wp2_with fail
        go_ret3
        exact ⟨rfl, hk1⟩
      · have hR : seenF m id req = if req < r then ([], false, 18) else if req = r then (a, true, 0) else ([], false, 0) := by
          simp only [seenF, HG.out]
          rw [if_neg (by omega)]
        generalize seenF m id req = R at hR ⊢
        have HR := hide hR
        clear hR
        by_cases h5 : req = r
        · subst h5
          have e : R = (a, true, 0) := by rw [HR.out, if_neg (by omega), if_pos rfl]
          subst e
          go_enter Tryz.func29, Tryz.ntmps29
          go_wp2_with fail
          refine hh.mono ?_
          rintro e w1 ⟨rfl, hk1⟩
          have hT := H.out.kept hk1 (fun h => h) (fun h => h)
          have c0 := hT.c0
          have hl : (Instr.lookup 105 (.map (some mb)) (.int .i64 id) false).run Tryz.prog w1 = .ok (.agg #[.int .i64 req, .string (S a)]) w1 := hT.map.look_some kT Tryz.underlying105 HG.out false
          clear hT
          go_wp2_with fail
          go_ret3
          exact ⟨rfl, hk1.alloc _⟩
        · have hne : (req == r) = false := by simpa using h5
          by_cases h6 : req < r
          · have e : R = ([], false, 18) := by rw [HR.out, if_pos h6]
            subst e
            go_enter Tryz.func29, Tryz.ntmps29
            go_wp2_with fail
            refine hh.mono ?_
            rintro e w1 ⟨rfl, hk1⟩
            have hT := H.out.kept hk1 (fun h => h) (fun h => h)
            have c0 := hT.c0
            have hl : (Instr.lookup 105 (.map (some mb)) (.int .i64 id) false).run Tryz.prog w1 = .ok (.agg #[.int .i64 r, .string (S a)]) w1 := hT.map.look_some kT Tryz.underlying105 HG.out false
            clear hT
            go_wp2_with fail
            go_ret3
            exact ⟨rfl, hk1.alloc _⟩
          · have e : R = ([], false, 0) := by rw [HR.out, if_neg h6, if_neg h5]
            subst e
            go_enter Tryz.func29, Tryz.ntmps29
            go_wp2_with fail
            refine hh.mono ?_
            rintro e w1 ⟨rfl, hk1⟩
            have hT := H.out.kept hk1 (fun h => h) (fun h => h)
            have c0 := hT.c0
            have hl : (Instr.lookup 105 (.map (some mb)) (.int .i64 id) false).run Tryz.prog w1 = .ok (.agg #[.int .i64 r, .string (S a)]) w1 := hT.map.look_some kT Tryz.underlying105 HG.out false
            clear hT
            go_wp2_with fail
            go_ret3
            exact ⟨rfl, hk1.alloc _⟩

def keepF (m : Tab) (id req : Int) (a : List UInt8) : Int × Tab :=
  if (seenF m id req).2.2 ≠ 0 then ((seenF m id req).2.2, m) else if (seenF m id req).2.1 = true then (18, m) else if 400 < a.length then (3, m) else (0, mput m id (req, a))

set_option maxRecDepth 100000 in
theorem keep_sess (w : World) (t mb : Nat) (m : Tab) (id req : Int) (a : List UInt8) (ha : a.length ≤ 9223372036854775807) (h : Tb w t mb m) :
    Calls Tryz.prog 66 #[ptr t, .int .i64 id, .int .i64 req, .string (S a)] w fun e w' => e = .returned (.int .i64 (keepF m id req a).1) ∧ Tb w' t mb (keepF m id req a).2 ∧ Keeps (fun k => k = mb) w w' := by
  have hh := seen_sess w t mb m id req h
  unfold keepF
  generalize seenF m id req = R at *
  obtain ⟨x, again, e⟩ := R
  simp only at hh ⊢
  have H := hide h
  clear h
  by_cases h1 : e = 0
  · subst h1
    rw [if_neg (by simp)]
    cases again
    · simp only [Bool.false_eq_true, if_false]
      by_cases h4 : 400 < a.length
      · rw [if_pos h4]
        go_enter Tryz.func66, Tryz.ntmps66
        go_wp2_with fail
        refine hh.mono ?_
        rintro e w1 ⟨rfl, hk1⟩
        go_wp2_with fail
        go_ret
        exact ⟨rfl, H.out.kept hk1 (fun h => h) (fun h => h), hk1.mono fun _ _ h => h.elim⟩
      · rw [if_neg h4]
        go_enter Tryz.func66, Tryz.ntmps66
        go_wp2_with fail
        refine hh.mono ?_
        rintro e w1 ⟨rfl, hk1⟩
        have hT := H.out.kept hk1 (fun h => h) (fun h => h)
        have c0 := hT.c0
        obtain ⟨w2, hput, hm2, hk2⟩ := hT.map.update kT Tryz.underlying105 id (req, a)
        have hput' : (Instr.mapUpdate 105 (.map (some mb)) (.int .i64 id) (.agg #[.int .i64 req, .string (S a)])).run Tryz.prog w1 = .ok () w2 := hput
        have HT := hide hT
        clear hT hput
        go_wp2_with fail
        go_ret
        exact ⟨rfl, HT.out.put hk2 hm2, (hk1.mono fun _ _ h => h.elim).trans' hk2⟩
    · simp only [if_true]
      go_enter Tryz.func66, Tryz.ntmps66
      go_wp2_with fail
      refine hh.mono ?_
      rintro e w1 ⟨rfl, hk1⟩
      go_wp2_with fail
      go_ret
      exact ⟨rfl, H.out.kept hk1 (fun h => h) (fun h => h), hk1.mono fun _ _ h => h.elim⟩
  · rw [if_pos h1]
    have hne : (e != 0) = true := by simpa using h1
    go_enter Tryz.func66, Tryz.ntmps66
    go_wp2_with fail
    refine hh.mono ?_
    rintro e w1 ⟨rfl, hk1⟩
    go_wp2_with fail
    go_ret
    exact ⟨rfl, H.out.kept hk1 (fun h => h) (fun h => h), hk1.mono fun _ _ h => h.elim⟩
end

section
set_option linter.unusedVariables false
open Go.RowKit Go.Maps Go.Sort Go.Shelf Go.MapKept



/-- the numbers, in order -/
def sortI (l : List Int) : List Int := l.mergeSort fun x y => decide (x ≤ y)

theorem MapOf.owns {α : Type} {ev : α → Value} {w : World} {b : Nat} {m : List (Int × α)} (h : MapOf kI ev w b m) (hk : ∀ k ∈ keys m, (Lit.int .i64 k).wf = true) (hl : m.length ≤ maxLen) :
    ∃ D0 : DataW Unit, w.ownsMap Tryz.prog 3 (fun _ => some (.nil, [])) b m.length D0 ∧ (intKeys D0).Perm (keys m) ∧ Maps.size D0 = m.length := by
  obtain ⟨es, clock, hb, hst, he⟩ := h
  have hlen : es.toList.length = m.length := by simpa using congrArg List.length he
  have hkeys : es.toList.map (·.key) = m.map fun p => kI p.1 := by
    have := congrArg (List.map (·.1)) he
    simpa [List.map_map, Function.comp_def] using this
  have hrd : ∀ x ∈ es.toList, ∃ k : Int, x.key = kI k ∧ WideElems.rd Tryz.prog 3 (fun _ => some ((.nil : DataW Unit), [])) x = some (.int .i64 k, .nil) := by
    intro x hx
    have h1 : x.key ∈ m.map fun p => kI p.1 := by rw [← hkeys]; exact List.mem_map.2 ⟨x, hx, rfl⟩
    obtain ⟨p, hp, e⟩ := List.mem_map.1 h1
    refine ⟨p.1, e.symm, ?_⟩
    have := Maps.keyOf_int_mk (P := Tryz.prog) Tryz.underlying3 (hk p.1 (List.mem_map.2 ⟨p, hp, rfl⟩))
    unfold WideElems.rd
    rw [← e, this]
    rfl
  refine ⟨_, ⟨es, clock, hb, ⟨by simp at hlen; omega, hst, fun x hx => by obtain ⟨k, _, h⟩ := hrd x hx; exact ⟨_, h⟩⟩, by simp at hlen; omega, rfl⟩, ?_, ?_⟩
  · refine ((WideShapes.sorted_perm _).map _).trans ?_
    rw [List.map_map]
    have : es.toList.map ((fun p : Lit × DataW Unit => Go.intOf p.1) ∘ WideElems.rg Tryz.prog 3 (fun _ => some (.nil, []))) = keys m := by
      have h2 : keys m = (es.toList.map (·.key)).map RowKit.intOf := by
        rw [hkeys, List.map_map]
        rfl
      rw [h2, List.map_map]
      apply List.map_congr_left
      intro x hx
      obtain ⟨k, e, h⟩ := hrd x hx
      simp only [Function.comp, WideElems.rg, h, Option.getD_some, e]
      rfl
    rw [this]
  · show ((es.toList.map (WideElems.rg Tryz.prog 3 _)).foldr DataW.insert []).length = _
    rw [length_sorted]
    simpa using hlen

/-- slices.Sort's two contracts here. -/
theorem sortsA (m : Nat) : AnyZI.SortsIn Tryz.prog Tryz.sortedA_ren Fence.wide m :=
  ⟨fun blk off cap ss W hH hblk hsz => callsIn_wide.2 (AnyM.slices_Sort_int Tryz.sortA blk off cap ss W hH hblk hsz),
   fun p cap W => callsIn_wide.2 (AnyM.slices_Sort_int_none Tryz.sortA p cap W)⟩

set_option maxHeartbeats 1000000 in
theorem all_row (w : World) (t mb : Nat) (m : Tab) (h : Tb w t mb m) (hk : ∀ k ∈ keys m, 1 ≤ k ∧ k ≤ 281474976710655) (hl : m.length ≤ 1000000) :
    Calls Tryz.prog 68 #[ptr t] w fun e w' => ∃ v, e = .returned v ∧ w'.ownsRow w.heap.size 3 1 v m.length (Is (sortI (keys m))) ∧ Keeps (fun _ => False) w w' := by
  obtain ⟨D0, hown, hperm, hsize⟩ := h.map.owns (fun k hm => by obtain ⟨h1, h2⟩ := hk k hm; simp [Lit.wf, IntKind.min, IntKind.max, IntKind.signed, IntKind.bits]; omega) (by unfold maxLen; omega)
  have hmax : Maps.size D0 ≤ maxLen := by unfold maxLen; omega
  have hbytes : Maps.size D0 * 8 ≤ 140737488355328 := by omega
  have c0 := h.c0
  have hbl := hown.lt
  refine (callsIn_wide (n := 6)).1 ?_
  have hseq : SeqGives Fence.wide 2 Tryz.prog 101 #[.pointer (some ⟨w.heap.size, 0, none⟩)] encZ (fun ss => ss.Perm (intKeys D0)) (Maps.size D0) (w.alloc (.cells #[.map (some mb)] 105)) :=
    AnyZI.keys_gives (ρ := Tryz.keysA_ren) { Tryz.keysA with } Fence.wide _ trivial rfl (by omega) w.heap.size mb m.length D0 _ (by simp) (by simp) (by
      obtain ⟨es, clock, hb, Ft, hs, hD⟩ := hown
      exact ⟨es, clock, (Below.heap_alloc _ _ mb hbl).trans hb, Ft, hs, hD⟩)
  have cK : ∀ mb W, CallsIn Fence.wide 5 Tryz.prog 83 #[.map mb] W fun e w' => e = .returned (.func (.func 101) #[] #[.pointer (some ⟨W.heap.size, 0, none⟩)]) ∧ w' = W.alloc (.cells #[.map mb] 105) := fun mb W => AnyZI.keys_in Tryz.keysA Fence.wide 5 trivial rfl mb W
  have cS := AnyZI.sorted_in Tryz.sortedA Fence.wide 5 trivial trivial trivial trivial rfl (by omega) (sortsA _) (enters_of Tryz.func100 (by kernel_rfl) rfl) 101 #[.pointer (some ⟨w.heap.size, 0, none⟩)] trivial (enters_of Tryz.func101 (by kernel_rfl) rfl) _ _ hmax hbytes _ hseq
  change CallsIn _ _ Tryz.prog 82 _ _ _ at cS
  have hfK : Fence.wide.fn 83 := trivial
  have hfS : Fence.wide.fn 82 := trivial
  refine callsIn_of_wp Tryz.func68 rfl trivial ?_ rfl
  simp only [Tryz.ntmps68, List.size_toArray, List.length_cons, List.length_nil, Nat.reduceAdd, Nat.reduceSub, Array.replicate_succ, Array.replicate_zero, List.push_toArray, List.append_toArray, List.nil_append, List.cons_append]
  clear hown h hk
  gi_wp2_with (first
    | (gi_at_call 83; refine (cK _ _).mono ?_; rintro e w' ⟨rfl, rfl⟩)
    | (gi_at_call 82; refine cS.mono ?_; rintro e w' ⟨v, ss, rfl, hS, hrow, hnil, hb⟩))
  go_ret
  have hS2 : ss.mergeSort (fun x y => decide (x ≤ y)) = sortI (keys m) := mergeSort_of_perm_i (hS.trans hperm)
  have hlen : ss.length = m.length := by
    have := (hS.trans hperm).length_eq
    simpa using this
  rw [hS2, hlen] at hrow
  refine ⟨v, rfl, ownsRow_base_a hrow (by simp), ?_⟩
  have hb2 : Below w.heap.size w w' := ((Below.refl _ w).alloc (Nat.le_refl _) _).trans (hb.mono (by simp))
  exact (Keeps.of_below hb2).mono fun k hk h => by omega

theorem all_sess (w : World) (t mb : Nat) (m : Tab) (h : Tb w t mb m) (hk : ∀ k ∈ keys m, 1 ≤ k ∧ k ≤ 281474976710655) (hl : m.length ≤ 1000000) :
    Calls Tryz.prog 68 #[ptr t] w fun e w' => ∃ A cap, e = .returned (.slice A m.length cap) ∧ Src w' 1 A m.length (Is (sortI (keys m))) ∧ Keeps (fun _ => False) w w' := by
  refine (all_row w t mb m h hk hl).mono ?_
  rintro e w' ⟨v, rfl, hrow, hk⟩
  have hrow' : Row w' 3 1 v m.length (Is (sortI (keys m))) := by
    refine ⟨hrow.1, ?_⟩
    rcases hrow.2 with h | ⟨g, cap, cur, e1, e2, r⟩
    · exact .inl h
    · exact .inr ⟨g, cap, cur, e1, Nat.zero_le _, r⟩
  obtain ⟨A, cap, rfl, _, _, hsrc, _⟩ := hrow'.form
  exact ⟨A, cap, rfl, hsrc, hk⟩
theorem all_nil (w : World) : Calls Tryz.prog 68 #[.pointer none] w fun e w' => e = .returned (.slice none 0 0) ∧ w = w' := by
  go_enter Tryz.func68, Tryz.ntmps68
  go_wp2_with fail
  go_ret
  exact ⟨rfl, rfl⟩
end

section
set_option linter.unusedVariables false
open Go.RowKit

section
variable {g w w' : World} {L : List Asn} {t mb : Nat} {m m' : Tab}
abbrev boxA (t mb : Nat) : Asn := cellsA t 107 #[.map (some mb)]
abbrev tabA (mb : Nat) (m : Tab) : Asn := mapA kI evS mb m
theorem Sat.tb (S : Sat g w (boxA t mb :: tabA mb m :: L)) : Tb w t mb m := ⟨S.cells_get, S.drop.mapOf⟩
theorem Sat.tbPut (S : Sat g w (boxA t mb :: tabA mb m :: L)) (hk : Keeps (fun k => k = mb) w w') (hT : Tb w' t mb m') : Sat g w' (boxA t mb :: tabA mb m' :: L) := (S.p1.mapPut hk hT.map).p1
theorem Sat.newRow {e : TypeId} {size n : Nat} {v : Value} {xs : List Value} (S : Sat g w L) (hk : Keeps (fun _ => False) w w') (hr : w'.ownsRow w.heap.size e size v n xs) : Sat g w' (rowA e size v n xs :: L) := by
  obtain ⟨hl, hr⟩ := hr
  rcases hr with ⟨rfl, rfl⟩ | ⟨b, cap, cur, rfl, hb, hg, q1, q2, q3, q4⟩
  · have := (S.keep hk).nilRow e size
    have h0 : xs = [] := by simpa using hl
    subst h0
    exact this
  · exact S.new hk (hone b (.cells cur e (0, 0)) true) ⟨hl, .inr ⟨b, cap, cur, rfl, q1, q2, q3, q4, rfl⟩⟩ (hone_mem hg) (fun k hk => by unfold hone; rw [if_neg (by omega)])
theorem Sat.srcOf {e : TypeId} {size n : Nat} {A : Option Addr} {cap : Nat} {xs : List Value} (S : Sat g w (rowA e size (.slice A n cap) n xs :: L)) : Src w size A n xs := by
  obtain ⟨A', cap', e', _, _, hsrc, _⟩ := S.row.form
  injection e' with e1 e2 e3
  subst e1
  exact hsrc
theorem s_new (S : Sat g w L) : Calls Tryz.prog 35 #[] w fun e w' => ∃ t mb, e = .returned (ptr t) ∧ Sat g w' (boxA t mb :: tabA mb [] :: L) := by
  have hmm := @run_makeMap Tryz.prog
  go_enter Tryz.func35, Tryz.ntmps35
  go_wp2_with fail
  go_ret
  refine ⟨w.heap.size + 1, w.heap.size, rfl, ?_⟩
  have h1 : Sat g (w.alloc (.map #[] 0)) (tabA w.heap.size [] :: L) := S.mapNew ((Keeps.refl _ w).alloc _) (Nat.le_refl _) (MapOf.made kI evS w)
  exact h1.box #[.map (some w.heap.size)] 107 (by simp)
theorem s_all (S : Sat g w (boxA t mb :: tabA mb m :: L)) (hk : ∀ k ∈ keys m, 1 ≤ k ∧ k ≤ 281474976710655) (hl : m.length ≤ 1000) :
    Calls Tryz.prog 68 #[ptr t] w fun e w' => ∃ A cap, e = .returned (.slice A m.length cap) ∧ Sat g w' (rowA 3 1 (.slice A m.length cap) m.length (Is (sortI (keys m))) :: boxA t mb :: tabA mb m :: L) := by
  refine (all_row w t mb m S.tb hk (by omega)).mono ?_
  rintro e w' ⟨v, rfl, hrow, hk⟩
  have S' := S.newRow hk hrow
  obtain ⟨A, cap, rfl, _⟩ := S'.row.form
  exact ⟨A, cap, rfl, S'⟩
end

def tabOk (m : Tab) : Prop := ∀ k ∈ keys m, 1 ≤ k ∧ k ≤ 281474976710655

/-! ### plain: a table as bytes, and back -/
def entB (p : Int × Ses) : List UInt8 := nums [p.1, p.2.1] ++ txts [p.2.2]
/-- the table in order -/
def normT (m : Tab) : Tab := (sortI (keys m)).map fun k => (k, (mget m k).getD (0, []))
def layB (m : Tab) : List UInt8 := nums [(m.length : Int)] ++ (normT m).flatMap entB

theorem entB_le (p : Int × Ses) : (entB p).length ≤ 65549 := by
  have h := txts_le [p.2.2]
  have h : (txts [p.2.2]).length ≤ 65537 := h
  simp only [entB, List.length_append, nums_length, List.length_cons, List.length_nil]
  omega
theorem ents_le (m : Tab) : (m.flatMap entB).length ≤ 65549 * m.length := by
  induction m with
  | nil => simp
  | cons p r ih =>
    have := entB_le p
    simp only [List.flatMap_cons, List.length_append, List.length_cons]
    omega
theorem sortI_length (l : List Int) : (sortI l).length = l.length := by simp [sortI]
theorem sortI_mem (l : List Int) (x : Int) : x ∈ sortI l ↔ x ∈ l := by simp [sortI]
theorem normT_length (m : Tab) : (normT m).length = m.length := by simp [normT, sortI_length]
theorem normT_at (m : Tab) (k : Nat) (x : Int) (h : (sortI (keys m))[k]? = some x) : (normT m)[k]? = some (x, (mget m x).getD (0, [])) := by
  simp [normT, h]
theorem take_flat {α β : Type} (f : α → List β) (l : List α) (k : Nat) (a : α) (h : l[k]? = some a) : (l.take (k + 1)).flatMap f = (l.take k).flatMap f ++ f a := by
  obtain ⟨hk, rfl⟩ := List.getElem?_eq_some_iff.1 h
  rw [List.take_succ_eq_append_getElem hk, List.flatMap_append]
  simp

end

section
set_option linter.unusedVariables false
open Go.RowKit

/-! ### plain -/
def entR (x : RS) : (Int × Ses) × RS := (((rn x 281474976710655).1, ((rn (rn x 281474976710655).2 281474976710655).1, (rt (rn (rn x 281474976710655).2 281474976710655).2 400).1)), (rt (rn (rn x 281474976710655).2 281474976710655).2 400).2)
def badE (last : Int) (p : Int × Ses) : Bool := decide (p.1 ≤ last) || (decide (p.2.1 = 0) && decide (p.2.2 ≠ []))
def lastK (m : Tab) : Int := match m.getLast? with
  | some p => p.1
  | none => 0
def stR (x : RS) : Nat → Option (Tab × RS)
  | 0 => some ([], x)
  | k + 1 => match stR x k with
    | none => none
    | some (m, y) => if badE (lastK m) (entR y).1 = true then none else some (m ++ [(entR y).1], (entR y).2)
def readT (x : RS) : Tab × RS := match stR (rn x 16).2 (rn x 16).1.toNat with
  | none => ([], fl)
  | some (m, y) => if y.2 = true then ([], y) else (m, y)
structure AscT (m : Tab) : Prop where
  asc : (keys m).Pairwise (· < ·)
  lo : ∀ k ∈ keys m, 1 ≤ k ∧ k ≤ lastK m ∧ k ≤ 281474976710655
theorem lastK_snoc (m : Tab) (p : Int × Ses) : lastK (m ++ [p]) = p.1 := by simp [lastK]
theorem lastK_nil : lastK [] = 0 := rfl
theorem AscT.nil : AscT [] := ⟨by simp [keys], by simp [keys]⟩
theorem AscT.last {m : Tab} (h : AscT m) : 0 ≤ lastK m := by
  rcases List.eq_nil_or_concat m with rfl | ⟨r, x, rfl⟩
  · simp [lastK]
  · rw [List.concat_eq_append, lastK_snoc]
    have := h.lo x.1 (by simp [keys])
    omega
theorem AscT.snoc {m : Tab} (h : AscT m) (p : Int × Ses) (h1 : lastK m < p.1) (h2 : p.1 ≤ 281474976710655) : AscT (m ++ [p]) := by
  have h0 := h.last
  refine ⟨?_, ?_⟩
  · simp only [keys, List.map_append, List.map_cons, List.map_nil]
    rw [List.pairwise_append]
    refine ⟨h.asc, by simp, fun a ha b hb => ?_⟩
    simp only [List.mem_singleton] at hb
    subst hb
    have := h.lo a ha
    omega
  · intro k hk
    rw [lastK_snoc]
    simp only [keys, List.map_append, List.map_cons, List.map_nil, List.mem_append, List.mem_singleton] at hk
    rcases hk with hk | rfl
    · have := h.lo k hk; omega
    · omega
theorem AscT.put {m : Tab} (h : AscT m) (p : Int × Ses) (h1 : lastK m < p.1) : mput m p.1 p.2 = m ++ [p] := by
  have hn : p.1 ∉ keys m := fun hm => by have := h.lo _ hm; omega
  unfold mput
  rw [mget_none.2 hn]
  rfl
theorem AscT.ok {m : Tab} (h : AscT m) : tabOk m := fun k hk => by have := h.lo k hk; omega
theorem stR_none (x : RS) (j n : Nat) (h : stR x j = none) (hn : j ≤ n) : stR x n = none := by
  induction n with
  | zero => obtain rfl : j = 0 := by omega
            exact h
  | succ n ih =>
    by_cases hj : j ≤ n
    · simp only [stR, ih hj]
    · obtain rfl : j = n + 1 := by omega
      exact h
theorem stR_length (x : RS) (k : Nat) (m : Tab) (y : RS) (h : stR x k = some (m, y)) : m.length = k := by
  induction k generalizing m y with
  | zero => simp [stR] at h; simp [← h.1]
  | succ k ih =>
    simp only [stR] at h
    cases hs : stR x k with
    | none => rw [hs] at h; cases h
    | some q =>
      obtain ⟨m1, y1⟩ := q
      rw [hs] at h
      simp only at h
      split at h
      · cases h
      · simp only [Option.some.injEq, Prod.mk.injEq] at h
        rw [← h.1]
        simp [ih m1 y1 hs]
theorem stR_asc (x : RS) (k : Nat) (m : Tab) (y : RS) (h : stR x k = some (m, y)) : AscT m := by
  induction k generalizing m y with
  | zero => simp [stR] at h; rw [h.1]; exact AscT.nil
  | succ k ih =>
    simp only [stR] at h
    cases hs : stR x k with
    | none => rw [hs] at h; cases h
    | some q =>
      obtain ⟨m1, y1⟩ := q
      rw [hs] at h
      simp only at h
      split at h
      · cases h
      · rename_i hb
        simp only [Option.some.injEq, Prod.mk.injEq] at h
        rw [← h.1]
        refine (ih m1 y1 hs).snoc _ ?_ (rn_hi _ _ (by decide))
        simp [badE] at hb
        omega
theorem entR_took (x : RS) : Took x (entB (entR x).1) (entR x).2 := by
  have h1 := rn_took x 281474976710655
  have h2 := rn_took (rn x 281474976710655).2 281474976710655
  have h3 := rt_took (rn (rn x 281474976710655).2 281474976710655).2 400
  have h := h1.trans (h2.trans h3)
  have e : entB (entR x).1 = num6 (rn x 281474976710655).1 ++ (num6 (rn (rn x 281474976710655).2 281474976710655).1 ++ txt (rt (rn (rn x 281474976710655).2 281474976710655).2 400).1) := by
    simp [entB, entR, nums, txts]
  rw [e]
  exact h
theorem stR_took (x : RS) (k : Nat) (m : Tab) (y : RS) (h : stR x k = some (m, y)) : Took x (m.flatMap entB) y := by
  induction k generalizing m y with
  | zero => simp [stR] at h; rw [h.1, ← h.2]; exact Took.nil _
  | succ k ih =>
    simp only [stR] at h
    cases hs : stR x k with
    | none => rw [hs] at h; cases h
    | some q =>
      obtain ⟨m1, y1⟩ := q
      rw [hs] at h
      simp only at h
      split at h
      · cases h
      · simp only [Option.some.injEq, Prod.mk.injEq] at h
        rw [← h.1, ← h.2]
        have := (ih m1 y1 hs).trans (entR_took y1)
        simpa using this
theorem sortI_asc (l : List Int) (h : l.Pairwise (· < ·)) : sortI l = l := by
  refine List.Perm.eq_of_pairwise (le := fun a b => a ≤ b) (fun a b _ _ h1 h2 => by omega) ?_ (h.imp (fun h => by omega)) (List.mergeSort_perm l _)
  have := List.pairwise_mergeSort (le := fun x y : Int => decide (x ≤ y)) (fun a b c h1 h2 => by simp only [decide_eq_true_eq] at *; omega) (fun a b => by simp only [Bool.or_eq_true, decide_eq_true_eq]; omega) l
  exact this.imp (fun h => by simpa using h)
theorem AscT.norm {m : Tab} (h : AscT m) : normT m = m := by
  have hn : (keys m).Nodup := h.asc.imp (fun h => by omega)
  unfold normT
  rw [sortI_asc _ h.asc]
  simp only [keys, List.map_map]
  conv => rhs; rw [← List.map_id m]
  apply List.map_congr_left
  intro p hp
  simp [mget_some hn (show (p.1, p.2) ∈ m from hp)]
/-- bytes that were a table, just so -/
theorem readT_lay (s : List UInt8) (m : Tab) (h : readT (s, false) = (m, ([], false))) : layB m = s := by
  unfold readT at h
  have h0 := rn_took (s, false) 16
  have hl := rn_lo (s, false) 16
  generalize rn (s, false) 16 = a at *
  cases hs : stR a.2 a.1.toNat with
  | none => rw [hs] at h; simp [fl] at h
  | some q =>
    obtain ⟨m1, y⟩ := q
    rw [hs] at h
    simp only at h
    split at h
    · rename_i hy; simp only [Prod.mk.injEq] at h; rw [h.2] at hy; cases hy
    · simp only [Prod.mk.injEq] at h
      obtain ⟨rfl, rfl⟩ := h
      have h1 := h0.trans (stR_took _ _ _ _ hs)
      have h2 := (h1 rfl).2
      have h3 := stR_length _ _ _ _ hs
      simp only [List.append_nil] at h2
      have e : ((m1.length : Nat) : Int) = a.1 := by omega
      rw [layB, (stR_asc _ _ _ _ hs).norm, e, h2]
      simp [nums]
theorem readT_asc (x : RS) : AscT (readT x).1 ∧ (readT x).1.length ≤ 16 := by
  unfold readT
  have hh := rn_hi x 16 (by decide)
  have hl := rn_lo x 16
  generalize rn x 16 = a at *
  cases hs : stR a.2 a.1.toNat with
  | none => exact ⟨AscT.nil, by simp⟩
  | some q =>
    obtain ⟨m1, y⟩ := q
    simp only
    split
    · exact ⟨AscT.nil, by simp⟩
    · refine ⟨stR_asc _ _ _ _ hs, ?_⟩
      have := stR_length _ _ _ _ hs
      simp only
      omega
theorem readT_fail (x : RS) (h : (readT x).2.2 = true) : (readT x).1 = [] := by
  unfold readT at h ⊢
  generalize rn x 16 = a at *
  cases hs : stR a.2 a.1.toNat with
  | none => rfl
  | some q =>
    obtain ⟨m1, y⟩ := q
    rw [hs] at h
    simp only at h ⊢
    split
    · rfl
    · rename_i hy
      rw [if_neg hy] at h
      exact absurd h hy
end

section
set_option linter.unusedVariables false
open Go.RowKit

end

section
set_option linter.unusedVariables false
open Go.RowKit

theorem s_mclone {g w : World} {L : List Asn} {mb : Nat} {m : Tab} (S : Sat g w (tabA mb m :: L)) :
    Calls Tryz.prog 59 #[.map (some mb)] w fun e w' => ∃ mb2, e = .returned (.map (some mb2)) ∧ Sat g w' (tabA mb2 m :: tabA mb m :: L) := by
  obtain ⟨es, clock, hb, hs, he⟩ := S.mapOf
  refine (AnyW.maps_Clone Tryz.cloneM mb es clock w hb).mono ?_
  rintro e w' ⟨rfl, rfl⟩
  exact ⟨_, rfl, S.mapNew ((Keeps.refl _ w).alloc _) (Nat.le_refl _) ⟨es, clock, heap_alloc_new w _, hs, he⟩⟩
theorem s_clone {g w : World} {L : List Asn} {t mb : Nat} {m : Tab} (S : Sat g w (boxA t mb :: tabA mb m :: L)) :
    Calls Tryz.prog 39 #[ptr t] w fun e w' => ∃ t2 mb2, e = .returned (ptr t2) ∧ Sat g w' (boxA t2 mb2 :: tabA mb2 m :: boxA t mb :: tabA mb m :: L) := by
  have c0 : w.cell? ⟨t, 0, none⟩ = some (.map (some mb)) := S.cell 0 _ rfl
  go_enter Tryz.func39, Tryz.ntmps39
  go_wp2_with fail
  refine (s_mclone S.p1).mono ?_
  rintro e w1 ⟨mb2, rfl, S1⟩
  go_wp2_with fail
  go_ret
  have S2 := (S1.box #[.map (some mb2)] 107 rfl).p3.b2
  first | exact ⟨_, rfl, mb2, S2⟩ | exact ⟨_, mb2, rfl, S2⟩
end

end Go.Proofs.YtanlobdidjednaaGreatDoor
