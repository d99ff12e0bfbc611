/- Contracts of the package watch: Fire of a book. No condition. -/
import Derived.Test.YtbfogieeiobpdaaGreatDoorBookF
set_option linter.unusedVariables false
set_option linter.unusedSimpArgs false
namespace Go.Proofs.YtbfogieeiobpdaaGreatDoor
open Go.RowKit

theorem eg_fire (args : Array Value) (w : World) : (callFunc 83 args).run Tryz.prog w = .ok (.enter 83 args) w := by kernel_rfl
/-- numbers between 0 and N -/
def NosOk (nos : List (Int × Int)) (N : Int) : Prop := ∀ k, 0 ≤ (mget nos k).getD 0 ∧ (mget nos k).getD 0 ≤ N
theorem NosOk.put {nos : List (Int × Int)} {N : Int} (h : NosOk nos N) (k : Int) : NosOk (mput nos k ((mget nos k).getD 0 + 1)) (N + 1) := by
  intro j
  rw [mget_mput]
  have h1 := h k
  have h2 := h j
  split
  · simp only [Option.getD_some]; omega
  · omega
theorem NosOk.mono {nos : List (Int × Int)} {N M : Int} (h : NosOk nos N) (hm : N ≤ M) : NosOk nos M := fun k => ⟨(h k).1, Int.le_trans (h k).2 hm⟩
theorem note_ok (s : List UInt8) (what when_ : Int) (st : Nts) (x : WatT) {N : Int} (h : NosOk st.2 N) : NosOk (noteF s what when_ st x).2 (N + 1) ∧ (noteF s what when_ st x).1.length ≤ st.1.length + 1 := by
  unfold noteF
  split
  · exact ⟨h.put _, by simp⟩
  · exact ⟨h.mono (by omega), by omega⟩
theorem notes_ok (s : List UInt8) (what when_ : Int) (l : List WatT) (st : Nts) {N : Int} (h : NosOk st.2 N) : NosOk (l.foldl (noteF s what when_) st).2 (N + l.length) ∧ (l.foldl (noteF s what when_) st).1.length ≤ st.1.length + l.length := by
  induction l generalizing st N with
  | nil => simpa using h
  | cons x r ih =>
    obtain ⟨h1, h2⟩ := note_ok s what when_ st x h
    obtain ⟨h3, h4⟩ := ih _ h1
    rw [List.foldl_cons, List.length_cons]
    refine ⟨h3.mono (by omega), by omega⟩

set_option maxRecDepth 100000 in
set_option maxHeartbeats 4000000 in
theorem fire_book {g w : World} {L : List Asn} {b : Nat} {B : BookT} (S : Sat g w (bookA b B :: L)) (hl : B.es.length ≤ 500000) (hl2 : B.ws.length ≤ 1000) (hn : NosOk B.nos 500000) (s : List UInt8) (what when_ : Int) (hs : s.length ≤ 140737488355328) :
    Calls Tryz.prog 43 #[ptr b, .string (Go.Proofs.YtbfogieeiobpdaaGreatDoor.S s), .int .i64 what, .int .i64 when_] w fun e w' => e = .returned (.tuple #[]) ∧ Sat g w' (bookA b (fireF B s what when_) :: L) := by
  obtain ⟨wv, S1⟩ := S.bookOpen
  obtain ⟨ws, es, nos⟩ := B
  simp only at hl hl2 hn S1
  obtain ⟨A, c, rfl, -⟩ := S1.p1.row.form
  clear S
  go_enter Tryz.func43, Tryz.ntmps43
  go_upto_region 1 with fail
  have S2 := (((S1.box #[ptr b] 25 rfl).box #[.string (Go.Proofs.YtbfogieeiobpdaaGreatDoor.S s)] 9 (b := w.heap.size + 1) (by simp)).box #[.int .i64 what] 72 (b := w.heap.size + 1 + 1) (by simp)).box #[.int .i64 when_] 3 (b := w.heap.size + 1 + 1 + 1) (by simp)
  generalize (((w.alloc (.cells #[ptr b] 25)).alloc (.cells #[.string (Go.Proofs.YtbfogieeiobpdaaGreatDoor.S s)] 9)).alloc (.cells #[.int .i64 what] 72)).alloc (.cells #[.int .i64 when_] 3) = w3 at *
  generalize w.heap.size + 1 + 1 + 1 = nb at *
  generalize w.heap.size + 1 + 1 = wb at *
  generalize w.heap.size + 1 = sb at *
  generalize w.heap.size = bb at *
  have S3 : Sat g w3 (rowA 96 4 (.slice A ws.length c) ws.length (ws.flatMap watC) :: notesA b (.slice A ws.length c) es nos :: cellsA sb 9 #[.string (Go.Proofs.YtbfogieeiobpdaaGreatDoor.S s)] :: cellsA wb 72 #[.int .i64 what] :: cellsA bb 25 #[ptr b] :: cellsA nb 3 #[.int .i64 when_] :: L) := (S2.b3.p1).p4.p5
  clear S1 S2
  have c0 : w3.cell? ⟨bb, 0, none⟩ = some (ptr b) := S3.p4.cell 0 _ rfl
  have HN : Hid (∀ k x, ws[k]? = some x → (ws.take (k + 1)).foldl (noteF s what when_) (es, nos) = noteF s what when_ ((ws.take k).foldl (noteF s what when_) (es, nos)) x) := hide fun k x h => by
    obtain ⟨hk, rfl⟩ := List.getElem?_eq_some_iff.1 h
    rw [List.take_succ_eq_append_getElem hk, List.foldl_append]
    rfl
  have HB : Hid (∀ k, NosOk ((ws.take k).foldl (noteF s what when_) (es, nos)).2 1000000 ∧ ((ws.take k).foldl (noteF s what when_) (es, nos)).1.length ≤ 1000000) := hide fun k => by
    obtain ⟨h1, h2⟩ := notes_ok s what when_ (ws.take k) (es, nos) hn
    have h3 : (ws.take k).length ≤ ws.length := by rw [List.length_take]; omega
    simp only at h2
    exact ⟨h1.mono (by omega), by omega⟩
  have HDL : Hid (∀ w', Sat g w' (rowA 96 4 (.slice A ws.length c) ws.length (ws.flatMap watC) :: notesA b (.slice A ws.length c) es nos :: cellsA sb 9 #[.string (Go.Proofs.YtbfogieeiobpdaaGreatDoor.S s)] :: cellsA wb 72 #[.int .i64 what] :: cellsA bb 25 #[ptr b] :: cellsA nb 3 #[.int .i64 when_] :: L) → Calls Tryz.prog 82 #[.slice A ws.length c, .func (.func 83) #[] #[ptr sb, ptr wb, ptr bb, ptr nb]] w' fun e w2 =>
      ∃ v', e = .returned v' ∧ Sat g w2 (rowA 96 4 v' (fireF ⟨ws, es, nos⟩ s what when_).ws.length ((fireF ⟨ws, es, nos⟩ s what when_).ws.flatMap watC) :: notesA b (.slice A ws.length c) (fireF ⟨ws, es, nos⟩ s what when_).es (fireF ⟨ws, es, nos⟩ s what when_).nos :: cellsA sb 9 #[.string (Go.Proofs.YtbfogieeiobpdaaGreatDoor.S s)] :: cellsA wb 72 #[.int .i64 what] :: cellsA bb 25 #[ptr b] :: cellsA nb 3 #[.int .i64 when_] :: L)) := hide fun w' S' => by
    have h := del_wat (p := firesP s what) (gF := 83) (lb := #[ptr sb, ptr wb, ptr bb, ptr nb]) (I := fun k => notesA b (.slice A ws.length c) ((ws.take k).foldl (noteF s what when_) (es, nos)).1 ((ws.take k).foldl (noteF s what when_) (es, nos)).2 :: cellsA sb 9 #[.string (Go.Proofs.YtbfogieeiobpdaaGreatDoor.S s)] :: cellsA wb 72 #[.int .i64 what] :: cellsA bb 25 #[ptr b] :: cellsA nb 3 #[.int .i64 when_] :: L)
      (fun k x A w' hx S' => by
        refine (fire1_watch S'.b5 x hs (HB.out k).2 ⟨((HB.out k).1 x.session).1, Int.le_trans ((HB.out k).1 x.session).2 (by decide)⟩).mono ?_
        rintro e w2 ⟨rfl, S2⟩
        refine ⟨rfl, ?_⟩
        dsimp only
        rw [HN.out k x hx]
        exact S2.p5) eg_fire S' (by omega)
    refine h.mono ?_
    rintro e w2 ⟨v', rfl, S2⟩
    rw [List.take_length] at S2
    exact ⟨v', rfl, S2⟩
  obtain ⟨B2, hB2⟩ : ∃ B2, fireF ⟨ws, es, nos⟩ s what when_ = B2 := ⟨_, rfl⟩
  rw [hB2] at HDL
  have HB2 := hide hB2
  clear hB2
  clear HN HB hn
  go_upto_region 2 with fail
  obtain ⟨ev, m, SN⟩ := S3.p1.notesOpen
  have q0 : w3.drew.cell? ⟨b, 0, none⟩ = some (.slice A ws.length c) := SN.drew.cell 0 _ rfl
  clear SN
  refine wp_region_held_drew (S := fun w' => w'.cell? ⟨bb, 0, none⟩ = some (ptr b)) (by kernel_rfl) ?_ (fun hHeld => ?_)
  · exact S3.drew.p4.cell 0 _ rfl
  refine wpAnyH_take (i := 0) (oi := _) (v := ?_) rfl (by kernel_rfl) (by kernel_rfl) (by kernel_rfl) (fun _ _ _ h => h) (Or.inl ⟨by rfl, ?_⟩) hHeld ?_
  rotate_left
  · intro w' hSw
    (try dsimp only at hSw)
    go_simp
    try with_reducible rfl
  try simp only [Act.put, List.setIfInBounds_toArray, List.set_cons_zero, List.set_cons_succ]
  refine wpAnyH_take (i := 1) (oi := _) (v := ?_) rfl (by kernel_rfl) (by kernel_rfl) (by kernel_rfl) (fun _ _ _ h => h) (Or.inl ⟨by rfl, ?_⟩) hHeld ?_
  rotate_left
  · intro w' hSw
    (try dsimp only at hSw)
    go_simp
    try with_reducible rfl
  try simp only [Act.put, List.setIfInBounds_toArray, List.set_cons_zero, List.set_cons_succ]
  refine wpAnyH_take (i := 2) (oi := _) (v := ?_) rfl (by kernel_rfl) (by kernel_rfl) (by kernel_rfl) (fun _ _ _ h => h) (Or.inl ⟨by rfl, ?_⟩) hHeld ?_
  rotate_left
  · intro w' hSw
    (try dsimp only at hSw)
    go_simp
    try with_reducible rfl
  try simp only [Act.put, List.setIfInBounds_toArray, List.set_cons_zero, List.set_cons_succ]
  refine wpAnyH_take (i := 3) (oi := _) (v := ?_) rfl (by kernel_rfl) (by kernel_rfl) (by kernel_rfl) (fun _ _ _ h => h) (Or.inl ⟨by rfl, ?_⟩) hHeld ?_
  rotate_left
  · intro w' hSw
    (try dsimp only at hSw)
    go_simp
    try with_reducible rfl
  try simp only [Act.put, List.setIfInBounds_toArray, List.set_cons_zero, List.set_cons_succ]
  refine wpAnyH_take (i := 5) (oi := _) (v := ?_) rfl (by kernel_rfl) (by kernel_rfl) (by kernel_rfl) (fun _ _ _ h => h) (Or.inl ⟨by rfl, ?_⟩) hHeld ?_
  rotate_left
  · intro w' hSw
    (try dsimp only at hSw)
    go_simp
    try with_reducible rfl
  try simp only [Act.put, List.setIfInBounds_toArray, List.set_cons_zero, List.set_cons_succ]
  refine wpAnyH_ready (rs := [4]) (by kernel_rfl) (by simp) ?_
  refine AllReadyH.cons rfl (fun K hK => ?_) ?_
  · go_simp
    refine hK.out _ _ ?_ (fun hHeld => ?_)
    · exact S3.drew.p4.cell 0 _ rfl
    clear hK K
    try simp only [Act.put, List.setIfInBounds_toArray, List.set_cons_zero, List.set_cons_succ]
    refine wpAnyH_ready (rs := [6]) (by kernel_rfl) (by simp) ?_
    refine AllReadyH.cons rfl (fun K hK => ?_) ?_
    · go_simp
      go_at_call 82
      refine (HDL.out _ (S3.drew)).mono ?_
      rintro e w4 ⟨v', rfl, S5⟩
      obtain ⟨A6, c6, rfl, -⟩ := S5.row.form
      obtain ⟨ev, m, S6⟩ := S5.p1.notesOpen
      have z0 : w4.cell? ⟨b, 0, none⟩ = some (.slice A ws.length c) := S6.cell 0 _ rfl
      have z1 := S6.cells_fz 0
      go_wp2_with fail
      refine hK.out _ _ ?_ (fun hHeld => ?_)
      · exact S5.p4.cell 0 _ rfl
      clear hK K
      try simp only [Act.put, List.setIfInBounds_toArray, List.set_cons_zero, List.set_cons_succ]
      refine wpAnyH_take (i := 7) (oi := _) (v := ?_) rfl (by kernel_rfl) (by kernel_rfl) (by kernel_rfl) (fun _ _ _ h => h) (Or.inl ⟨by rfl, ?_⟩) hHeld ?_
      rotate_left
      · intro w' hSw
        (try dsimp only at hSw)
        go_simp
        try with_reducible rfl
      try simp only [Act.put, List.setIfInBounds_toArray, List.set_cons_zero, List.set_cons_succ]
      refine wpAnyH_take (i := 8) (oi := _) (v := ?_) rfl (by kernel_rfl) (by kernel_rfl) (by kernel_rfl) (fun _ _ _ h => h) (Or.inl ⟨by rfl, ?_⟩) hHeld ?_
      rotate_left
      · intro w' hSw
        (try dsimp only at hSw)
        go_simp
        try with_reducible rfl
      try simp only [Act.put, List.setIfInBounds_toArray, List.set_cons_zero, List.set_cons_succ]
      refine wpAnyH_ready (rs := [9]) (by kernel_rfl) (by simp) ?_
      refine AllReadyH.cons rfl (fun K hK => ?_) ?_
      · go_simp
        refine hK.out _ _ ?_ (fun hHeld => ?_)
        · exact ((S6.setc 0 _).p6).cell 0 _ rfl
        clear hK K
        try simp only [Act.put, List.setIfInBounds_toArray, List.set_cons_zero, List.set_cons_succ]
        refine wpAnyH_done (by kernel_rfl) ?_ _
        have S7 := S6.setc 0 (.slice A6 B2.ws.length c6)
        clear HDL
        go_wp2_with fail
        go_end0
        refine ⟨rfl, ?_⟩
        rw [HB2.out]
        have S8 : Sat g _ (cellsA b 99 #[.slice A6 B2.ws.length c6, ev, .map (some m)] :: _) := S7
        exact Sat.bookShut (Sat.notesShut ((((S8.p4.drop).p4.drop).p4.drop).p4.drop))
      exact AllReadyH.nil
    exact AllReadyH.nil
  exact AllReadyH.nil

end Go.Proofs.YtbfogieeiobpdaaGreatDoor
