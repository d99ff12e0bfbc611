/- slices.Insert of one watch. No condition. -/
import Derived.Test.YtbfogieeiobpdaaGreatDoorDel
import Derived.Laws.Externs
set_option linter.unusedVariables false
set_option linter.unusedSimpArgs false
namespace Go.Proofs.YtbfogieeiobpdaaGreatDoor
open Go.RowKit

theorem ins_room (cur xs cx : List Value) (o N : Nat) (h1 : cur.take N = xs) (h2 : o ≤ N) (h3 : N + cx.length ≤ cur.length) :
    (lay (lay cur (o + cx.length) (xs.drop o)) o cx).take (N + cx.length) = xs.take o ++ cx ++ xs.drop o := by
  have hx : xs.length = N := by rw [← h1, List.length_take]; omega
  have e1 : (lay cur (o + cx.length) (xs.drop o)).take o = xs.take o := by
    rw [lay_ahead (by omega) (by omega), ← h1, List.take_take, Nat.min_eq_left h2]
  have e2 : (lay cur (o + cx.length) (xs.drop o)).drop (o + cx.length) = xs.drop o ++ cur.drop (o + cx.length + (xs.drop o).length) := by
    unfold lay
    rw [List.append_assoc, List.drop_append, List.drop_eq_nil_of_le (by simp; omega), List.nil_append, List.length_take, Nat.min_eq_left (by omega), Nat.sub_self, List.drop_zero]
  have e3 : lay (lay cur (o + cx.length) (xs.drop o)) o cx = (xs.take o ++ cx ++ xs.drop o) ++ cur.drop (o + cx.length + (xs.drop o).length) := by
    show (lay cur (o + cx.length) (xs.drop o)).take o ++ cx ++ (lay cur (o + cx.length) (xs.drop o)).drop (o + cx.length) = _
    rw [e1, e2]
    simp
  rw [e3]
  exact List.take_left' (by simp; omega)
theorem ins_grow (xs zs cx : List Value) (o : Nat) (h2 : o ≤ xs.length) (h3 : xs.length - o + cx.length ≤ zs.length) :
    (lay (lay (xs.take o ++ zs) o cx) (o + cx.length) (xs.drop o)).take (xs.length + cx.length) = xs.take o ++ cx ++ xs.drop o := by
  have hl : (xs.take o).length = o := by rw [List.length_take]; omega
  have e1 : (lay (xs.take o ++ zs) o cx).take (o + cx.length) = xs.take o ++ cx := by
    rw [lay_next (by simp; omega)]
    congr 1
    exact List.take_left' hl
  have e3 : lay (lay (xs.take o ++ zs) o cx) (o + cx.length) (xs.drop o) = (xs.take o ++ cx ++ xs.drop o) ++ (lay (xs.take o ++ zs) o cx).drop (o + cx.length + (xs.drop o).length) := by
    show (lay (xs.take o ++ zs) o cx).take (o + cx.length) ++ xs.drop o ++ _ = _
    rw [e1]
  rw [e3]
  exact List.take_left' (by simp; omega)

/-- append of zeros, where there is no room -/
theorem wpList_szeros {P : Program} {t tn e : TypeId} {size bytes : Nat} {z : Value} (K0 : Sl P t e size bytes z) (htn : P.underlying tn = some (.int .i64)) {g w : World} {L : List Asn} {ops : Array Oper} {rest : List Oper} {o : Oper} {a : Go.Act} {Q : Exit → Go.Act → World → Prop} (hgd : o.guard = none) (s x : Operand)
    (ho : o.op = .call { callee := .builtin .append, args := #[s, x], argTypes := #[t, tn] }) (S : Sat g w L) {ad : Addr} {n c k : Nat} {xs : List Value} (hsrc : Src w size (some ad) n xs) (hs : a.eval s = .slice (some ad) n c) {kk : Int} (hkk : kk = k) (hx : a.eval x = .int .i64 kk)
    {N : Nat} (hN : n + k = N) (h0 : 0 < k) (hc : c < n + k) (h63 : n + k ≤ maxLen) (hbytes : (n + k) * bytes ≤ 140737488355328)
    (h : ∀ (b G : Nat) (ad' : Addr) (zs : List Value) w', Hid (ad' = ⟨b, 0, none⟩) → N ≤ G → G ≤ maxLen → zs.length = (G - n) * size → Sat g w' (cellsA b e (xs ++ zs).toArray :: L) → wpList P ops Q rest (a.put o.dst (.slice (some ad') N G)) w') : wpList P ops Q (o :: rest) a w := by
  subst hkk hN
  refine wpList_plain hgd fun K hK => ?_
  obtain ⟨i, hi, hz, rfl, rfl⟩ := K0.info
  have hpos := K0.pos
  have hold : (Builtin.firstCells i.size n (.slice (some ad) n c)).run P w.drew = .ok xs.toArray w.drew :=
    run_firstCells_some (w := w.drew) i.size n ad n c xs hsrc.1 (fun j v hj => by
      have hlt := (List.getElem?_eq_some_iff.1 hj).1
      have hn : 0 < n := by
        rcases Nat.eq_zero_or_pos n with h | h
        · have := hsrc.1; subst h; simp at this; subst this; simp at hlt
        · exact h
      obtain ⟨ad', e', h3⟩ := hsrc.2 hn
      cases e'
      exact h3 j v hj)
  have hk1 : k ≤ n + k := by omega
  have hkb : k * i.bytes ≤ 281474976710656 := Nat.le_trans (Nat.mul_le_mul_right _ hk1) (by omega)
  have hr := Lib.run_append_grow_zeros (P := P) w t tn o.type e i z .i64 .i64 K0.sl htn hi hz (some ad) n c xs hold k h0 hpos hc (by simp only [maxLen] at h63; omega) hkb (growslice_fits hc hbytes)
  have hG := grownCap_ge w (n + k) c e
  have hGm := grownCap_le_maxLen w (n + k) c e h63
  generalize grownCap w (n + k) c e = G at *
  unfold Oper.wp execOp
  simp only [ho, resolve, invoke, builtin, Sem.run_bind, Sem.run_pure, Result.andThen_ok, List.map_toArray, List.map_cons, List.map_nil, hs, hx, hr]
  have hsz := K0.cells
  refine hK _ _ (h w.heap.size G _ ((Builtin.zeroCells z.cells k).toList ++ (Builtin.zeroCells z.cells (G - (n + k))).toList) _ rfl hG hGm ?_ ?_)
  · rw [List.length_append, Array.length_toList, Array.length_toList, size_zeroCells, size_zeroCells, hsz, ← Nat.add_mul]
    congr 1
    omega
  · have e1 : xs.toArray ++ Builtin.zeroCells z.cells k ++ Builtin.zeroCells z.cells (G - (n + k)) = (xs ++ ((Builtin.zeroCells z.cells k).toList ++ (Builtin.zeroCells z.cells (G - (n + k))).toList)).toArray := by
      apply Array.ext'
      simp
    rw [e1]
    exact S.drew.box _ e (b := w.heap.size) rfl

theorem Src.cells {w : World} {size n : Nat} {ad : Addr} {xs : List Value} (h : Src w size (some ad) n xs) : ∀ j v, xs[j]? = some v → w.cell? (ad.add j) = some v := by
  intro j v hj
  have hlt := (List.getElem?_eq_some_iff.1 hj).1
  have hn : 0 < n := by
    rcases Nat.eq_zero_or_pos n with h0 | h0
    · have := h.1; subst h0; simp at this; subst this; simp at hlt
    · exact h0
  obtain ⟨ad', e', h3⟩ := h.2 hn
  cases e'
  exact h3 j v hj

set_option maxRecDepth 100000 in
set_option maxHeartbeats 4000000 in
theorem ins_end_nil {g w : World} {L : List Asn} {xs cx : List Value} {n c i vb : Nat} (S : Sat g w (cellsA vb 96 cx.toArray :: rowA 96 4 (.slice none n c) n xs :: L)) (hx : xs.length = n * 4) (hc4 : cx.length = 4) (h1 : ∀ u ∈ xs, u.oneCell' = true) (h2 : ∀ u ∈ cx, u.oneCell' = true) (hnc : n ≤ c) (hcm : c ≤ 9223372036854775807) (hl : n ≤ 1000) (hin : i = n) :
    Calls Tryz.prog 81 #[.slice none n c, .int .i64 i, .slice (some ⟨vb, 0, none⟩) 1 1] w fun e w' =>
      ∃ v', e = .returned v' ∧ Sat g w' (rowA 96 4 v' (n + 1) (xs.take (i * 4) ++ cx ++ xs.drop (i * 4)) :: L) := by
  have HX1 := hide h1
  have HW1 := hide h2
  have HW := hide hc4
  have HM := hide hx
  clear h1 h2
  have hsv : Src w 4 (some ⟨vb, 0, none⟩) 1 cx := Src.block S.cells_get 4 1 (by simpa using hc4)
  clear hx hc4
  subst hin
  have HF := hide (show xs.take (i * 4) ++ cx ++ xs.drop (i * 4) = xs ++ cx by
    have := HM.out
    rw [List.take_of_length_le (by omega), List.drop_eq_nil_of_le (by omega), List.append_nil])
  have hnc' : (i : Int) ≤ (c : Int) := by omega
  go_enter Tryz.func81, Tryz.ntmps81
  go_wp2_with (at_builtin; refine wpList_sapp slW rfl (.tmp 23) (.tmp 24) rfl (g := g) (S := S.p1) rfl hsv rfl HW1.out (by unfold maxLen; omega) (by omega) ?_; intro A5 c5 w5 S5)
  all_goals
    go_ret
    refine ⟨_, rfl, ?_⟩
    rw [HF.out]
    exact S5.p1.drop

set_option maxRecDepth 100000 in
set_option maxHeartbeats 4000000 in
theorem ins_end_full {g w : World} {L : List Asn} {xs cx : List Value} {ad : Addr} {n c i vb : Nat} (S : Sat g w (cellsA vb 96 cx.toArray :: rowA 96 4 (.slice (some ad) n c) n xs :: L)) (hx : xs.length = n * 4) (hc4 : cx.length = 4) (h1 : ∀ u ∈ xs, u.oneCell' = true) (h2 : ∀ u ∈ cx, u.oneCell' = true) (hnc : n ≤ c) (hcm : c ≤ 9223372036854775807) (hl : n ≤ 1000) (hin : i = n) (hci : i = c) :
    Calls Tryz.prog 81 #[.slice (some ad) n c, .int .i64 i, .slice (some ⟨vb, 0, none⟩) 1 1] w fun e w' =>
      ∃ v', e = .returned v' ∧ Sat g w' (rowA 96 4 v' (n + 1) (xs.take (i * 4) ++ cx ++ xs.drop (i * 4)) :: L) := by
  have HX1 := hide h1
  have HW1 := hide h2
  have HW := hide hc4
  have HM := hide hx
  clear h1 h2
  have hsv : Src w 4 (some ⟨vb, 0, none⟩) 1 cx := Src.block S.cells_get 4 1 (by simpa using hc4)
  clear hx hc4
  subst hin
  subst hci
  have HF := hide (show xs.take (i * 4) ++ cx ++ xs.drop (i * 4) = xs ++ cx by
    have := HM.out
    rw [List.take_of_length_le (by omega), List.drop_eq_nil_of_le (by omega), List.append_nil])
  have hnc' : (i : Int) ≤ (i : Int) := by omega
  go_enter Tryz.func81, Tryz.ntmps81
  go_wp2_with (at_builtin; refine wpList_sapp slW rfl (.tmp 23) (.tmp 24) rfl (g := g) (S := S.p1) rfl hsv rfl HW1.out (by unfold maxLen; omega) (by omega) ?_; intro A5 c5 w5 S5)
  all_goals
    go_ret
    refine ⟨_, rfl, ?_⟩
    rw [HF.out]
    exact S5.p1.drop

set_option maxRecDepth 100000 in
set_option maxHeartbeats 4000000 in
theorem ins_end_part {g w : World} {L : List Asn} {xs cx : List Value} {ad : Addr} {n c i vb : Nat} (S : Sat g w (cellsA vb 96 cx.toArray :: rowA 96 4 (.slice (some ad) n c) n xs :: L)) (hx : xs.length = n * 4) (hc4 : cx.length = 4) (h1 : ∀ u ∈ xs, u.oneCell' = true) (h2 : ∀ u ∈ cx, u.oneCell' = true) (hnc : n ≤ c) (hcm : c ≤ 9223372036854775807) (hl : n ≤ 1000) (hin : i = n) (hci : ¬ c = i) :
    Calls Tryz.prog 81 #[.slice (some ad) n c, .int .i64 i, .slice (some ⟨vb, 0, none⟩) 1 1] w fun e w' =>
      ∃ v', e = .returned v' ∧ Sat g w' (rowA 96 4 v' (n + 1) (xs.take (i * 4) ++ cx ++ xs.drop (i * 4)) :: L) := by
  have HX1 := hide h1
  have HW1 := hide h2
  have HW := hide hc4
  have HM := hide hx
  clear h1 h2
  have hsv : Src w 4 (some ⟨vb, 0, none⟩) 1 cx := Src.block S.cells_get 4 1 (by simpa using hc4)
  clear hx hc4
  subst hin
  have HF := hide (show xs.take (i * 4) ++ cx ++ xs.drop (i * 4) = xs ++ cx by
    have := HM.out
    rw [List.take_of_length_le (by omega), List.drop_eq_nil_of_le (by omega), List.append_nil])
  have hnc' : (i : Int) ≤ (c : Int) := by omega
  have hci2 : ¬ (c - i = 0) := by omega
  go_enter Tryz.func81, Tryz.ntmps81
  go_wp2_with (at_builtin; refine wpList_sapp slW rfl (.tmp 23) (.tmp 24) rfl (g := g) (S := S.p1) rfl hsv rfl HW1.out (by unfold maxLen; omega) (by omega) ?_; intro A5 c5 w5 S5)
  all_goals
    go_ret
    refine ⟨_, rfl, ?_⟩
    rw [HF.out]
    exact S5.p1.drop

end Go.Proofs.YtbfogieeiobpdaaGreatDoor
