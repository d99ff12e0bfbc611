/- Contracts of the package sess: a table of sessions: New, Has, Open, Close, Seen, Keep. No condition. -/
import Derived.Test.YtbfogieeiobpdaaGreatDoorPithM
import Derived.Test.YtbfogieeiobpdaaGreatDoorLow
set_option linter.unusedVariables false
namespace Go.Proofs.YtbfogieeiobpdaaGreatDoor
open Go.RowKit

/-- a session: its last request, and that one's answer -/
abbrev Ses := Int × List UInt8
abbrev Tab := List (Int × Ses)
abbrev kI (k : Int) : Value := .int .i64 k
abbrev evS (s : Ses) : Value := .agg #[.int .i64 s.1, .string (S s.2)]
theorem kT : KeyT Tryz.prog 3 (.int .i64) kI := ⟨Tryz.underlying3, fun _ => rfl, fun a b h => by injection h⟩
theorem zeroS (w : World) : (zeroValue 164).run Tryz.prog w = .ok (.agg #[.int .i64 0, .string ⟨#[]⟩]) w := by kernel_rfl

structure Tb (w : World) (t mb : Nat) (m : Tab) : Prop where
  box : w.heap[t]? = some (.cells #[.map (some mb)] 168 (0, 0))
  map : MapOf kI evS w mb m
theorem Tb.c0 {w t mb m} (h : Tb w t mb m) : w.cell? ⟨t, 0, none⟩ = some (.map (some mb)) := by
  have := h.box; simp [World.cell?, this]
theorem Tb.ne {w t mb m} (h : Tb w t mb m) : t ≠ mb := by
  rintro rfl
  exact h.map.isMap _ _ _ h.box
theorem Tb.kept {w w' : World} {t mb m} {F : Nat → Prop} (h : Tb w t mb m) (hk : Keeps F w w') (h1 : ¬ F t) (h2 : ¬ F mb) : Tb w' t mb m := ⟨hk.heap h.box h1, h.map.kept hk h2⟩
/-- a step that turns the map alone -/
theorem Tb.put {w w' : World} {t mb m m'} (h : Tb w t mb m) (hk : Keeps (fun k => k = mb) w w') (hm : MapOf kI evS w' mb m') : Tb w' t mb m' := ⟨hk.heap h.box h.ne, hm⟩

theorem new_sess (w : World) : Calls Tryz.prog 72 #[] w fun e w' => ∃ t mb, e = .returned (ptr t) ∧ Tb w' t mb [] ∧ w.heap.size ≤ t ∧ w.heap.size ≤ mb ∧ Keeps (fun _ => False) w w' := by
  have hmm := @run_makeMap Tryz.prog
  go_enter Tryz.func72, Tryz.ntmps72
  go_wp2_with fail
  go_ret
  refine ⟨w.heap.size + 1, w.heap.size, rfl, ⟨?_, ?_⟩, by omega, by omega, ((Keeps.refl _ w).alloc _).alloc _⟩
  · have := heap_alloc_new (w.alloc (.map #[] 0)) (.cells #[.map (some w.heap.size)] 168)
    simpa using this
  · exact (MapOf.made kI evS w).alloc _

theorem has_sess (w : World) (t mb : Nat) (m : Tab) (id : Int) (h : Tb w t mb m) :
    Calls Tryz.prog 68 #[ptr t, .int .i64 id] w fun e w' => e = .returned (.bool (decide (id ∈ keys m))) ∧ Keeps (fun _ => False) w w' := by
  have c0 := h.c0
  by_cases hid : id ∈ keys m
  · obtain ⟨v, hv⟩ := mem_keys_mget.1 hid
    have hl : (Instr.lookup 166 (.map (some mb)) (.int .i64 id) true).run Tryz.prog w = .ok (.tuple #[.agg #[.int .i64 v.1, .string (S v.2)], .bool true]) w := h.map.look_some kT Tryz.underlying166 hv true
    have e : decide (id ∈ keys m) = true := by simpa using hid
    rw [e]
    clear e hid hv
    have H := hide h
    clear h
    go_enter Tryz.func68, Tryz.ntmps68
    go_wp2_with fail
    go_ret
    exact ⟨rfl, (Keeps.refl _ w).alloc _⟩
  · have hl : (Instr.lookup 166 (.map (some mb)) (.int .i64 id) true).run Tryz.prog w = .ok (.tuple #[.agg #[.int .i64 0, .string ⟨#[]⟩], .bool false]) w := h.map.look_none kT Tryz.underlying166 (mget_none.2 hid) (zeroS w) true
    have e : decide (id ∈ keys m) = false := by simpa using hid
    rw [e]
    clear e hid
    have H := hide h
    clear h
    go_enter Tryz.func68, Tryz.ntmps68
    go_wp2_with fail
    go_ret
    exact ⟨rfl, (Keeps.refl _ w).alloc _⟩

def openF (m : Tab) (id : Int) : Int × Tab :=
  if id < 1 ∨ 281474976710655 < id then (1, m) else if id ∈ keys m then (12, m) else if 16 ≤ m.length then (16, m) else (0, mput m id (0, []))

set_option maxRecDepth 100000 in
theorem open_sess (w : World) (t mb : Nat) (m : Tab) (id : Int) (h : Tb w t mb m) :
    Calls Tryz.prog 103 #[ptr t, .int .i64 id] w fun e w' => e = .returned (.int .i64 (openF m id).1) ∧ Tb w' t mb (openF m id).2 ∧ Keeps (fun k => k = mb) w w' := by
  have hh := has_sess w t mb m id h
  by_cases h1 : id < 1
  · have e : openF m id = (1, m) := by simp [openF, h1]
    rw [e]
    clear hh e
    have H := hide h
    clear h
    go_enter Tryz.func103, Tryz.ntmps103
    go_wp2_with fail
    go_ret
    exact ⟨rfl, H.out, Keeps.refl _ w⟩
  · by_cases h2 : 281474976710655 < id
    · have e : openF m id = (1, m) := by simp [openF, h2]
      rw [e]
      clear hh e
      have H := hide h
      clear h
      go_enter Tryz.func103, Tryz.ntmps103
      go_wp2_with fail
      go_ret
      exact ⟨rfl, H.out, Keeps.refl _ w⟩
    · by_cases h3 : id ∈ keys m
      · have e : openF m id = (12, m) := by
          unfold openF
          rw [if_neg (by omega), if_pos h3]
        rw [e]
        simp only [h3, decide_true] at hh
        clear e h3
        have H := hide h
        clear h
        go_enter Tryz.func103, Tryz.ntmps103
        go_wp2_with fail
        refine hh.mono ?_
        rintro e w1 ⟨rfl, hk1⟩
        go_wp2_with fail
        go_ret
        exact ⟨rfl, H.out.kept hk1 (fun h => h) (fun h => h), hk1.mono fun _ _ h => h.elim⟩
      · simp only [h3, decide_false] at hh
        by_cases h4 : 16 ≤ m.length
        · have e : openF m id = (16, m) := by
            unfold openF
            rw [if_neg (by omega), if_neg h3, if_pos h4]
          rw [e]
          clear e h3
          have H := hide h
          clear h
          go_enter Tryz.func103, Tryz.ntmps103
          go_wp2_with fail
          refine hh.mono ?_
          rintro e w1 ⟨rfl, hk1⟩
          have hT := H.out.kept hk1 (fun h => h) (fun h => h)
          have c0 := hT.c0
          have hlen := fun ty => hT.map.len (ty := ty) Tryz.underlying166
          have HT := hide hT
          clear hT
          go_wp2_with fail
          go_ret
          exact ⟨rfl, HT.out, hk1.mono fun _ _ h => h.elim⟩
        · have e : openF m id = (0, mput m id (0, [])) := by
            unfold openF
            rw [if_neg (by omega), if_neg h3, if_neg h4]
          rw [e]
          clear e h3
          have H := hide h
          clear h
          go_enter Tryz.func103, Tryz.ntmps103
          go_wp2_with fail
          refine hh.mono ?_
          rintro e w1 ⟨rfl, hk1⟩
          have hT := H.out.kept hk1 (fun h => h) (fun h => h)
          have c0 := hT.c0
          have hlen := fun ty => hT.map.len (ty := ty) Tryz.underlying166
          obtain ⟨w2, hput, hm2, hk2⟩ := hT.map.update kT Tryz.underlying166 id (0, [])
          have hput' : (Instr.mapUpdate 166 (.map (some mb)) (.int .i64 id) (.agg #[.int .i64 0, .string ⟨#[]⟩])).run Tryz.prog w1 = .ok () w2 := hput
          have HT := hide hT
          clear hT hput
          have hb4 : m.length < 16 := by omega
          go_wp2_with fail
          go_ret
          exact ⟨rfl, HT.out.put hk2 hm2, (hk1.mono fun _ _ h => h.elim).trans' hk2⟩

def closeF (m : Tab) (id : Int) : Int × Tab := if id ∈ keys m then (0, mdel m id) else (17, m)

theorem close_sess (w : World) (t mb : Nat) (m : Tab) (id : Int) (h : Tb w t mb m) :
    Calls Tryz.prog 139 #[ptr t, .int .i64 id] w fun e w' => e = .returned (.int .i64 (closeF m id).1) ∧ Tb w' t mb (closeF m id).2 ∧ Keeps (fun k => k = mb) w w' := by
  have hh := has_sess w t mb m id h
  by_cases h3 : id ∈ keys m
  · have e : closeF m id = (0, mdel m id) := by simp only [closeF, h3, if_true]
    rw [e]
    simp only [h3, decide_true] at hh
    clear e h3
    have H := hide h
    clear h
    go_enter Tryz.func139, Tryz.ntmps139
    go_wp2_with fail
    refine hh.mono ?_
    rintro e w1 ⟨rfl, hk1⟩
    have hT := H.out.kept hk1 (fun h => h) (fun h => h)
    have c0 := hT.c0
    obtain ⟨w2, hdel, hm2, hk2⟩ := hT.map.delete (ty := 0) (t2 := 3) kT Tryz.underlying166 id
    have hdel' : ∀ ty, (Builtin.delete_ #[166, 3] ty #[.map (some mb), .int .i64 id]).run Tryz.prog w1 = .ok (.tuple #[]) w2 := fun _ => hdel
    have HT := hide hT
    clear hT hdel
    go_wp2_with fail
    go_ret
    exact ⟨rfl, HT.out.put hk2 hm2, (hk1.mono fun _ _ h => h.elim).trans' hk2⟩
  · have e : closeF m id = (17, m) := by simp only [closeF, h3, if_false]
    rw [e]
    simp only [h3, decide_false] at hh
    clear e h3
    have H := hide h
    clear h
    go_enter Tryz.func139, Tryz.ntmps139
    go_wp2_with fail
    refine hh.mono ?_
    rintro e w1 ⟨rfl, hk1⟩
    go_wp2_with fail
    go_ret
    exact ⟨rfl, H.out.kept hk1 (fun h => h) (fun h => h), hk1.mono fun _ _ h => h.elim⟩

def seenF (m : Tab) (id req : Int) : List UInt8 × Bool × Int :=
  match mget m id with
  | none => ([], false, 17)
  | some s => if req < 1 ∨ 281474976710655 < req then ([], false, 1) else if req < s.1 then ([], false, 18) else if req = s.1 then (s.2, true, 0) else ([], false, 0)
abbrev seenV (r : List UInt8 × Bool × Int) : Value := .tuple #[.string (S r.1), .bool r.2.1, .int .i64 r.2.2]

set_option maxRecDepth 100000 in
theorem seen_sess (w : World) (t mb : Nat) (m : Tab) (id req : Int) (h : Tb w t mb m) :
    Calls Tryz.prog 104 #[ptr t, .int .i64 id, .int .i64 req] w fun e w' => e = .returned (seenV (seenF m id req)) ∧ Keeps (fun _ => False) w w' := by
  have hh := has_sess w t mb m id h
  cases hg : mget m id with
  | none =>
    have e : seenF m id req = ([], false, 17) := by simp only [seenF, hg]
    rw [e]
    have h3 : id ∉ keys m := mget_none.1 hg
    simp only [h3, decide_false] at hh
    clear e h3 hg
    have H := hide h
    clear h
    go_enter Tryz.func104, Tryz.ntmps104
    go_wp2_with fail
    refine hh.mono ?_
    rintro e w1 ⟨rfl, hk1⟩
    go_wp2_with fail
    go_ret3
    exact ⟨rfl, hk1⟩
  | some s =>
    have h3 : id ∈ keys m := mem_keys_mget.2 ⟨s, hg⟩
    simp only [h3, decide_true] at hh
    clear h3
    have HG := hide hg
    clear hg
    obtain ⟨r, a⟩ := s
    have H := hide h
    clear h
    by_cases h1 : req < 1
    · have e : seenF m id req = ([], false, 1) := by simp only [seenF, HG.out, h1, true_or, if_true]
      rw [e]
      clear e
      go_enter Tryz.func104, Tryz.ntmps104
      go_wp2_with fail
      refine hh.mono ?_
      rintro e w1 ⟨rfl, hk1⟩
      go_wp2_with fail
      go_ret3
      exact ⟨rfl, hk1⟩
    · by_cases h2 : 281474976710655 < req
      · have e : seenF m id req = ([], false, 1) := by simp only [seenF, HG.out, h2, or_true, if_true]
        rw [e]
        clear e
        go_enter Tryz.func104, Tryz.ntmps104
        go_wp2_with fail
        refine hh.mono ?_
        rintro e w1 ⟨rfl, hk1⟩
        go_wp2_with fail
        go_ret3
        exact ⟨rfl, hk1⟩
      · have hR : seenF m id req = if req < r then ([], false, 18) else if req = r then (a, true, 0) else ([], false, 0) := by
          simp only [seenF, HG.out]
          rw [if_neg (by omega)]
        generalize seenF m id req = R at hR ⊢
        have HR := hide hR
        clear hR
        by_cases h5 : req = r
        · subst h5
          have e : R = (a, true, 0) := by rw [HR.out, if_neg (by omega), if_pos rfl]
          subst e
          go_enter Tryz.func104, Tryz.ntmps104
          go_wp2_with fail
          refine hh.mono ?_
          rintro e w1 ⟨rfl, hk1⟩
          have hT := H.out.kept hk1 (fun h => h) (fun h => h)
          have c0 := hT.c0
          have hl : (Instr.lookup 166 (.map (some mb)) (.int .i64 id) false).run Tryz.prog w1 = .ok (.agg #[.int .i64 req, .string (S a)]) w1 := hT.map.look_some kT Tryz.underlying166 HG.out false
          clear hT
          go_wp2_with fail
          go_ret3
          exact ⟨rfl, hk1.alloc _⟩
        · have hne : (req == r) = false := by simpa using h5
          by_cases h6 : req < r
          · have e : R = ([], false, 18) := by rw [HR.out, if_pos h6]
            subst e
            go_enter Tryz.func104, Tryz.ntmps104
            go_wp2_with fail
            refine hh.mono ?_
            rintro e w1 ⟨rfl, hk1⟩
            have hT := H.out.kept hk1 (fun h => h) (fun h => h)
            have c0 := hT.c0
            have hl : (Instr.lookup 166 (.map (some mb)) (.int .i64 id) false).run Tryz.prog w1 = .ok (.agg #[.int .i64 r, .string (S a)]) w1 := hT.map.look_some kT Tryz.underlying166 HG.out false
            clear hT
            go_wp2_with fail
            go_ret3
            exact ⟨rfl, hk1.alloc _⟩
          · have e : R = ([], false, 0) := by rw [HR.out, if_neg h6, if_neg h5]
            subst e
            go_enter Tryz.func104, Tryz.ntmps104
            go_wp2_with fail
            refine hh.mono ?_
            rintro e w1 ⟨rfl, hk1⟩
            have hT := H.out.kept hk1 (fun h => h) (fun h => h)
            have c0 := hT.c0
            have hl : (Instr.lookup 166 (.map (some mb)) (.int .i64 id) false).run Tryz.prog w1 = .ok (.agg #[.int .i64 r, .string (S a)]) w1 := hT.map.look_some kT Tryz.underlying166 HG.out false
            clear hT
            go_wp2_with fail
            go_ret3
            exact ⟨rfl, hk1.alloc _⟩

def keepF (m : Tab) (id req : Int) (a : List UInt8) : Int × Tab :=
  if (seenF m id req).2.2 ≠ 0 then ((seenF m id req).2.2, m) else if (seenF m id req).2.1 = true then (18, m) else if 400 < a.length then (3, m) else (0, mput m id (req, a))

set_option maxRecDepth 100000 in
theorem keep_sess (w : World) (t mb : Nat) (m : Tab) (id req : Int) (a : List UInt8) (ha : a.length ≤ 9223372036854775807) (h : Tb w t mb m) :
    Calls Tryz.prog 108 #[ptr t, .int .i64 id, .int .i64 req, .string (S a)] w fun e w' => e = .returned (.int .i64 (keepF m id req a).1) ∧ Tb w' t mb (keepF m id req a).2 ∧ Keeps (fun k => k = mb) w w' := by
  have hh := seen_sess w t mb m id req h
  unfold keepF
  generalize seenF m id req = R at *
  obtain ⟨x, again, e⟩ := R
  simp only at hh ⊢
  have H := hide h
  clear h
  by_cases h1 : e = 0
  · subst h1
    rw [if_neg (by simp)]
    cases again
    · simp only [Bool.false_eq_true, if_false]
      by_cases h4 : 400 < a.length
      · rw [if_pos h4]
        go_enter Tryz.func108, Tryz.ntmps108
        go_wp2_with fail
        refine hh.mono ?_
        rintro e w1 ⟨rfl, hk1⟩
        go_wp2_with fail
        go_ret
        exact ⟨rfl, H.out.kept hk1 (fun h => h) (fun h => h), hk1.mono fun _ _ h => h.elim⟩
      · rw [if_neg h4]
        go_enter Tryz.func108, Tryz.ntmps108
        go_wp2_with fail
        refine hh.mono ?_
        rintro e w1 ⟨rfl, hk1⟩
        have hT := H.out.kept hk1 (fun h => h) (fun h => h)
        have c0 := hT.c0
        obtain ⟨w2, hput, hm2, hk2⟩ := hT.map.update kT Tryz.underlying166 id (req, a)
        have hput' : (Instr.mapUpdate 166 (.map (some mb)) (.int .i64 id) (.agg #[.int .i64 req, .string (S a)])).run Tryz.prog w1 = .ok () w2 := hput
        have HT := hide hT
        clear hT hput
        go_wp2_with fail
        go_ret
        exact ⟨rfl, HT.out.put hk2 hm2, (hk1.mono fun _ _ h => h.elim).trans' hk2⟩
    · simp only [if_true]
      go_enter Tryz.func108, Tryz.ntmps108
      go_wp2_with fail
      refine hh.mono ?_
      rintro e w1 ⟨rfl, hk1⟩
      go_wp2_with fail
      go_ret
      exact ⟨rfl, H.out.kept hk1 (fun h => h) (fun h => h), hk1.mono fun _ _ h => h.elim⟩
  · rw [if_pos h1]
    have hne : (e != 0) = true := by simpa using h1
    go_enter Tryz.func108, Tryz.ntmps108
    go_wp2_with fail
    refine hh.mono ?_
    rintro e w1 ⟨rfl, hk1⟩
    go_wp2_with fail
    go_ret
    exact ⟨rfl, H.out.kept hk1 (fun h => h) (fun h => h), hk1.mono fun _ _ h => h.elim⟩

end Go.Proofs.YtbfogieeiobpdaaGreatDoor
