/- The law OpApart, walked. No condition. -/
import Derived.Test.YtinpnnfeggjbeaaOpKinds
import Derived.Test.YtinpnnfeggjbeaaDecOp
import Derived.StillTailTactics
set_option linter.unusedVariables false
namespace Go.Proofs.Ytinpnnfeggjbeaa
open Go.RowKit

theorem Src.keepP {w w' : World} {size : Nat} {A : Option Addr} {n : Nat} {xs : List Value} {F : Nat → Prop} (h : Src w size A n xs) (hk : Keeps F w w') (hA : 0 < n → Off F A) : Src w' size A n xs := by
  rcases Nat.eq_zero_or_pos n with h0 | h0
  · exact ⟨h.1, fun hn => by omega⟩
  · exact h.keep hk (hA h0)
theorem Src.below {w : World} {size : Nat} {A : Option Addr} {n : Nat} {xs : List Value} (h : Src w size A n xs) (hs : 0 < size) (hn : 0 < n) : ∀ ad, A = some ad → ad.block < w.heap.size := by
  intro ad e
  obtain ⟨ad', e', hc⟩ := h.2 hn
  rw [e] at e'
  injection e' with e'
  subst e'
  have hl : 0 < xs.length := by rw [h.1]; exact Nat.mul_pos hn hs
  have h0 := World.block_lt_of_cell? w _ (hc 0 _ (List.getElem?_eq_getElem hl))
  rwa [block_add] at h0

/-- the first operation's last part is changed -/
theorem src_set0 {w : World} {g : Nat} {o : OpT} {r : List OpT} (h : OpSrc w (some ⟨g, 0, none⟩) (o :: r)) (u : Bool) : OpSrc (w.setCell ⟨g, 5, none⟩ (.bool u)) (some ⟨g, 0, none⟩) ({o with own := u} :: r) := by
  obtain ⟨_, e, hc⟩ := h.2 (by simp)
  cases e
  refine ⟨by have := h.1; simpa [opC] using this, fun _ => ⟨_, rfl, fun j v hj => ?_⟩⟩
  have ha : ∀ j, (⟨g, 0, none⟩ : Addr).add j = ⟨g, j, none⟩ := fun j => add0 g j
  rw [ha]
  by_cases h5 : j = 5
  · subst h5
    have h5 := hc 5 (.bool o.own) rfl
    rw [ha] at h5
    rw [World.cell?_setCell_same _ _ _ h5]
    exact hj
  · rw [World.cell?_setCell_other _ _ _ _ (by intro e; injection e with _ e _; exact h5 e.symm), ← ha]
    refine hc j v ?_
    rw [← hj]
    simp only [List.flatMap_cons, opC]
    match j, h5 with
    | 0, _ => rfl
    | 1, _ => rfl
    | 2, _ => rfl
    | 3, _ => rfl
    | 4, _ => rfl
    | n + 6, _ => simp

/-- two commands in memory, unlike -/
def AP (W : World) (db : Nat) (c : CmdT) (A : Option Addr) (cap : Nat) (wx : World) : Prop :=
  ∃ d B cb, Blk wx W.heap.size 43 (cmdL c A cap).toArray ∧ Blk wx db 43 (cmdL d B cb).toArray ∧ OpSrc wx A c.ops ∧ OpSrc wx B d.ops ∧ d ≠ c ∧ d.ops.length ≤ 11 ∧ Keeps (fun _ => False) W wx
theorem ap_set {W w4 : World} {db : Nat} {c : CmdT} {A B B2 : Option Addr} {cap cb cb2 : Nat} (hWd : W.heap.size < db) (hA : 0 < c.ops.length → ∀ ad, A = some ad → ad.block < W.heap.size) (hB : ∀ ad, B2 = some ad → db < ad.block)
    (h1 : Blk w4 W.heap.size 43 (cmdL c A cap).toArray) (h2 : Blk w4 db 43 (cmdL c B cb).toArray) (h3 : OpSrc w4 A c.ops) (h6 : Keeps (fun _ => False) W w4) (d : CmdT) (h4 : OpSrc w4 B2 d.ops) (h5 : d.ops.length ≤ 11)
    (i : Nat) (u : Value) (e : (cmdL c B cb).toArray.setIfInBounds i u = (cmdL d B2 cb2).toArray) (hne : d ≠ c) : AP W db c A cap (w4.setCell ⟨db, i, none⟩ u) := by
  have hk : Keeps (fun k => k = db) w4 (w4.setCell ⟨db, i, none⟩ u) := (Keeps.refl (fun k => k = db) w4).setCell (p := ⟨db, i, none⟩) (fun _ => rfl) u
  refine ⟨d, B2, cb2, h1.kept hk (by omega), ?_, h3.keepP hk (fun hn ad e h => by have := hA hn ad e; omega), ?_, hne, h5, h6.trans hk (fun i hi e => by omega)⟩
  · rw [← e]; exact h2.set i u
  · exact h4.keep hk (fun ad e h => by have := hB ad e; omega)
theorem ap_own {W w4 : World} {db g : Nat} {c : CmdT} {A : Option Addr} {cap cb : Nat} {o : OpT} {r : List OpT} (hc : c.ops = o :: r) (hWd : W.heap.size < db) (hg : db < g) (hA : 0 < c.ops.length → ∀ ad, A = some ad → ad.block < W.heap.size)
    (h1 : Blk w4 W.heap.size 43 (cmdL c A cap).toArray) (h2 : Blk w4 db 43 (cmdL c (some ⟨g, 0, none⟩) cb).toArray) (h3 : OpSrc w4 A c.ops) (h6 : Keeps (fun _ => False) W w4) (h4 : OpSrc w4 (some ⟨g, 0, none⟩) c.ops) (h5 : c.ops.length ≤ 10) :
    AP W db c A cap (w4.setCell ⟨g, 5, none⟩ (.bool (!o.own))) := by
  have hk : Keeps (fun k => k = g) w4 (w4.setCell ⟨g, 5, none⟩ (.bool (!o.own))) := (Keeps.refl (fun k => k = g) w4).setCell (p := ⟨g, 5, none⟩) (fun _ => rfl) _
  refine ⟨{c with ops := {o with own := !o.own} :: r}, some ⟨g, 0, none⟩, cb, h1.kept hk (by omega), ?_, h3.keepP hk (fun hn ad e h => by have := hA hn ad e; omega), ?_, ?_, ?_, h6.trans hk (fun i hi e => by omega)⟩
  · have := h2.kept hk (by omega)
    simp only [cmdL, hc, List.length_cons] at this ⊢
    exact this
  · rw [hc] at h4
    exact src_set0 h4 _
  · intro e
    have := congrArg CmdT.ops e
    rw [hc] at this
    simp only [List.cons.injEq, and_true] at this
    have := congrArg OpT.own this
    simp at this
  · simp only [List.length_cons]; rw [hc] at h5; simp only [List.length_cons] at h5; omega

theorem S_x (l : List UInt8) : S l ++ ⟨#[120]⟩ = S (l ++ [120]) := by
  apply ByteArray.ext
  simp [S]
def zop : OpT := ⟨0, [], [], 0, false, false⟩
theorem ap_app {W w4 w9 : World} {db : Nat} {c : CmdT} {A B B9 : Option Addr} {cap cb cb9 : Nat} {O : Obj} (hWd : W.heap.size < db) (hA : 0 < c.ops.length → ∀ ad, A = some ad → ad.block < W.heap.size) (hB : ∀ ad, B = some ad → db < ad.block)
    (h1 : Blk w4 W.heap.size 43 (cmdL c A cap).toArray) (h2 : Blk w4 db 43 (cmdL c B cb).toArray) (h3 : OpSrc w4 A c.ops) (h6 : Keeps (fun _ => False) W w4)
    (g1 : Blk w9 W.heap.size 43 (cmdL c A cap).toArray) (g2 : Blk w9 db 43 (cmdL c B cb).toArray) (hg : Grew (w4.alloc O) (.slice B c.ops.length cb) w9 (.slice B9 (c.ops.length + 1) cb9))
    (had : ∀ ad, B9 = some ad → (Value.slice B9 (c.ops.length + 1) cb9).ownBlock = some ad.block ∧ ad = ⟨ad.block, 0, none⟩) (hs : Src w9 6 B9 (c.ops.length + 1) (c.ops.flatMap opC ++ (#[.int .i64 0, .string ⟨#[]⟩, .string ⟨#[]⟩, .int .i64 0, .bool false, .bool false] : Array Value).toList)) (h5 : c.ops.length ≤ 10) :
    AP W db c A cap (w9.setCell ⟨db, 4, none⟩ (.slice B9 (c.ops.length + 1) cb9)) := by
  have hdb := h2.lt
  have hown : ∀ i, (Value.slice B c.ops.length cb).ownBlock = some i → db < i := by
    intro i e
    cases hb : B with
    | none => rw [hb] at e; simp [Value.ownBlock] at e
    | some ad => rw [hb] at e; simp [Value.ownBlock] at e; have := hB ad hb; omega
  have hkg : Keeps (fun k => db < k) w4 w9 := ((Keeps.refl (fun k => db < k) w4).alloc O).trans hg.keeps (fun i hi e => hown i e)
  have hB9 : ∀ ad, B9 = some ad → db < ad.block := by
    intro ad e
    rcases hg.new _ (had ad e).1 with h | h
    · exact hown _ h
    · simp at h; omega
  refine ap_set (B := B) (cb := cb) (cb2 := cb9) hWd hA hB9 g1 g2 (h3.keepP hkg (fun hn ad e h => by have := hA hn ad e; omega)) (h6.trans hkg (fun i hi e => by omega)) {c with ops := c.ops ++ [zop]} ?_ (by simp only [List.length_append, List.length_cons, List.length_nil]; omega) 4 _ ?_ ?_
  · show Src w9 6 B9 (c.ops ++ [zop]).length ((c.ops ++ [zop]).flatMap opC)
    rw [List.length_append, List.flatMap_append]
    exact hs
  · simp [cmdL]
  · intro e
    have := congrArg (fun c => c.ops.length) e
    simp at this
theorem wrap_ne (x : Int) : wrap64 (x + 1) ≠ x := by
  unfold wrap64
  omega
theorem ne_not (b : Bool) : (!b) ≠ b := by cases b <;> simp

set_option maxRecDepth 100000 in
set_option maxHeartbeats 8000000 in
theorem apartO_walk (W : World) (c : CmdT) (A : Option Addr) (cap : Nat) (which : Int) (h : OpSrc W A c.ops) (hok : CmdOk c) (hi : CmdI c) :
    Calls Try.prog 6 #[cmdV c A cap, .int .i64 which] W fun e w' => e = .returned (.bool true) ∧ Keeps (fun k => W.heap.size ≤ k) W w' := by
  have HF : Hid (∀ {w w' : World}, Keeps (fun _ => False) w w' → Keeps (fun k => w.heap.size ≤ k) w w') := fun h => h.mono (fun _ _ h => h.elim)
  have HO := hide hok
  have HI := hide hi
  have HA := hide (fun hn => h.below (by decide) hn)
  have HS := hide h
  clear h hok hi
  obtain ⟨kind, session, req, noted, ops, path, kids, once⟩ := c
  go_enter Try.func6, Try.ntmps6
  go_wp2_with fail
  refine (head_op _).mono ?_
  rintro e w0 ⟨rfl, hk⟩
  have HB := hide (Blk.kept (Blk.new (g := W.heap.size) rfl) hk (fun h => h))
  replace HS := hide (HS.out.keep (((Keeps.refl (fun _ => False) _).alloc _).trans' hk) (fun _ _ h => h))
  have HK := hide (((Keeps.refl (fun _ => False) W).alloc _).trans' hk)
  clear hk
  have q0 : w0.cell? ⟨W.heap.size, 0, none⟩ = some (.int .i64 kind) := HB.out.cell 0 _ rfl
  have q1 : w0.cell? ⟨W.heap.size, 1, none⟩ = some (.int .i64 session) := HB.out.cell 1 _ rfl
  have q2 : w0.cell? ⟨W.heap.size, 2, none⟩ = some (.int .i64 req) := HB.out.cell 2 _ rfl
  have q3 : w0.cell? ⟨W.heap.size, 3, none⟩ = some (.int .i64 noted) := HB.out.cell 3 _ rfl
  have q4 : w0.cell? ⟨W.heap.size, 4, none⟩ = some (.slice A ops.length cap) := HB.out.cell 4 _ rfl
  have q5 : w0.cell? ⟨W.heap.size, 5, none⟩ = some (.string (S path)) := HB.out.cell 5 _ rfl
  have q6 : w0.cell? ⟨W.heap.size, 6, none⟩ = some (.bool kids) := HB.out.cell 6 _ rfl
  have q7 : w0.cell? ⟨W.heap.size, 7, none⟩ = some (.bool once) := HB.out.cell 7 _ rfl
  go_wp2_with fail
  refine (few_cmd _ ⟨kind, session, req, noted, ops, path, kids, once⟩ _ _ HS.out HO.out).mono ?_
  rintro e w1 ⟨rfl | ⟨rfl, hl, hpl⟩, hk⟩
  · go_wp2_with fail
    go_ret
    exact ⟨rfl, HF.out (HK.out.trans' hk)⟩
  · simp only at hl hpl
    replace HS := hide (HS.out.keep hk (fun _ _ h => h))
    replace HB := hide (HB.out.kept hk (fun h => h))
    replace HK := hide (HK.out.trans' hk)
    clear hk q0 q1 q2 q3 q4 q5 q6 q7
    have q0 : w1.cell? ⟨W.heap.size, 0, none⟩ = some (.int .i64 kind) := HB.out.cell 0 _ rfl
    have q1 : w1.cell? ⟨W.heap.size, 1, none⟩ = some (.int .i64 session) := HB.out.cell 1 _ rfl
    have q2 : w1.cell? ⟨W.heap.size, 2, none⟩ = some (.int .i64 req) := HB.out.cell 2 _ rfl
    have q3 : w1.cell? ⟨W.heap.size, 3, none⟩ = some (.int .i64 noted) := HB.out.cell 3 _ rfl
    have q4 : w1.cell? ⟨W.heap.size, 4, none⟩ = some (.slice A ops.length cap) := HB.out.cell 4 _ rfl
    have q5 : w1.cell? ⟨W.heap.size, 5, none⟩ = some (.string (S path)) := HB.out.cell 5 _ rfl
    have q6 : w1.cell? ⟨W.heap.size, 6, none⟩ = some (.bool kids) := HB.out.cell 6 _ rfl
    have q7 : w1.cell? ⟨W.heap.size, 7, none⟩ = some (.bool once) := HB.out.cell 7 _ rfl
    have r4 : ((w1.alloc (.cells #[.int .i64 kind, .int .i64 session, .int .i64 req, .int .i64 noted, .slice A ops.length cap, .string (S path), .bool kids, .bool once] 43)).alloc (.cells #[] 52)).cell? ⟨W.heap.size, 4, none⟩ = some (.slice A ops.length cap) := ((HB.out.alloc _).alloc _).cell 4 _ rfl
    go_upto_region 7 with first
      | (at_builtin; go_must (refine wpList_app slO rfl (.tmp 12) (.tmp 14) rfl (v := .slice (some ⟨w1.heap.size + 1, 0, none⟩) 0 0) (n := 0) (xs := []) ⟨rfl, .inr ⟨w1.heap.size + 1, 0, #[], rfl, Nat.zero_le _, heap_new (by simp), Nat.le_refl _, Nat.zero_le _, rfl, rfl⟩⟩ rfl (HS.out.keep (((Keeps.refl (fun _ => False) w1).alloc _).alloc _) (fun _ _ h => h)) rfl (by intro u hu; simp only [List.mem_flatMap, opC] at hu; obtain ⟨o, _, hu⟩ := hu; simp at hu; rcases hu with rfl | rfl | rfl | rfl | rfl | rfl <;> rfl) (by unfold maxLen; omega) (by omega) ?_); intro v2 w2 hrow hg; rw [show 0 + ops.length = ops.length from Nat.zero_add _, List.nil_append] at hrow; obtain ⟨B, cb, ev, _, _, hsb, had⟩ := Row.form hrow; have hd := ((Blk.new (w := w1) (cs := #[.int .i64 kind, .int .i64 session, .int .i64 req, .int .i64 noted, .slice A ops.length cap, .string (S path), .bool kids, .bool once]) (e := 43) rfl).alloc (.cells #[] 52)).kept hg.keeps (by simp [Value.ownBlock]); have hb2 := ((HB.out.alloc (.cells #[.int .i64 kind, .int .i64 session, .int .i64 req, .int .i64 noted, .slice A ops.length cap, .string (S path), .bool kids, .bool once] 43)).alloc (.cells #[] 52)).kept hg.keeps (by have := HB.out.lt; simp [Value.ownBlock]; omega); have hs2 := HS.out.keepB (by decide) ((((Keeps.refl (fun k => w1.heap.size ≤ k) w1).alloc (.cells #[.int .i64 kind, .int .i64 session, .int .i64 req, .int .i64 noted, .slice A ops.length cap, .string (S path), .bool kids, .bool once] 43)).alloc (.cells #[] 52)).trans hg.keeps (fun i hi e => by simp [Value.ownBlock] at e; omega)) (fun k hk h => by omega); have hk2 := (HK.out.alloc (.cells #[.int .i64 kind, .int .i64 session, .int .i64 req, .int .i64 noted, .slice A ops.length cap, .string (S path), .bool kids, .bool once] 43)).alloc (.cells #[] 52) |>.trans hg.keeps (fun i hi e => by have := HK.out.size; simp [Value.ownBlock] at e; omega); have d4 : w2.cell? ⟨w1.heap.size, 4, none⟩ = some (.slice A ops.length cap) := hd.cell 4 _ rfl; have f4 := hd.fz 4; have HD := hide hd; have HB2 := hide hb2; have HS2 := hide hs2; have HK2 := hide hk2; have HG := hide hg; have HSB := hide hsb; have HROW := hide hrow; have HAD := hide had; clear hd hb2 hs2 hk2 hg hsb hrow had; subst ev)
    generalize hw3 : w2.setCell ⟨w1.heap.size, 4, none⟩ (.slice B ops.length cb) = w3
    have hks : Keeps (fun k => k = w1.heap.size) w2 w3 := hw3 ▸ (Keeps.refl (fun k => k = w1.heap.size) w2).setCell (p := ⟨w1.heap.size, 4, none⟩) (fun _ => rfl) _
    have HD3 : Hid (Blk w3 w1.heap.size 43 #[.int .i64 kind, .int .i64 session, .int .i64 req, .int .i64 noted, .slice B ops.length cb, .string (S path), .bool kids, .bool once]) := hw3 ▸ HD.out.set 4 _
    have HB3 := hide (HB2.out.kept hks (by have := HB.out.lt; omega))
    have hkA : Keeps (fun k => w1.heap.size ≤ k) w1 w3 := ((((Keeps.refl (fun k => w1.heap.size ≤ k) w1).alloc (.cells #[.int .i64 kind, .int .i64 session, .int .i64 req, .int .i64 noted, .slice A ops.length cap, .string (S path), .bool kids, .bool once] 43)).alloc (.cells #[] 52)).trans HG.out.keeps (fun i hi e => by simp [Value.ownBlock] at e; omega)).trans hks (fun i hi e => by omega)
    have HS3 := hide (HS.out.keepB (by decide) hkA (fun k hk h => by omega))
    have hBg : ∀ ad, B = some ad → w1.heap.size < ad.block := by
      intro ad e
      have h1 := HG.out.new ad.block (HAD.out ad e).1
      simp [Value.ownBlock] at h1
      omega
    have HSB3 := hide (HSB.out.keep hks (fun ad e h => by have := hBg ad e; omega))
    have HROW3 : Hid (Row w3 52 6 (.slice B ops.length cb) ops.length (ops.flatMap opC)) := HROW.out.kept hks (fun g hg e => by
      cases hB : B with
      | none => rw [hB] at hg; simp [Value.ownBlock] at hg
      | some ad => rw [hB] at hg; simp [Value.ownBlock] at hg; have := hBg ad hB; omega)
    have HK3 := hide (HK2.out.trans hks (fun i hi e => by have := HK.out.size; omega))
    have hWd : W.heap.size < w1.heap.size := HB.out.lt
    have HBG := hide hBg
    have HAD3 : Hid (∀ ad, B = some ad → ad = ⟨ad.block, 0, none⟩) := fun ad e => (HAD.out ad e).2
    clear hBg hkA hks hw3 HD HB2 HS2 HK2 HG HSB HROW HAD d4 f4 r4 q0 q1 q2 q3 q4 q5 q6 q7 HS HB HK
    generalize w1.heap.size = db at *
    clear w0
    have q0 : (w3).cell? ⟨W.heap.size, 0, none⟩ = some (.int .i64 kind) := (HB3.out).cell 0 _ rfl
    have q1 : (w3).cell? ⟨W.heap.size, 1, none⟩ = some (.int .i64 session) := (HB3.out).cell 1 _ rfl
    have q2 : (w3).cell? ⟨W.heap.size, 2, none⟩ = some (.int .i64 req) := (HB3.out).cell 2 _ rfl
    have q3 : (w3).cell? ⟨W.heap.size, 3, none⟩ = some (.int .i64 noted) := (HB3.out).cell 3 _ rfl
    have q4 : (w3).cell? ⟨W.heap.size, 4, none⟩ = some (.slice A ops.length cap) := (HB3.out).cell 4 _ rfl
    have q5 : (w3).cell? ⟨W.heap.size, 5, none⟩ = some (.string (S path)) := (HB3.out).cell 5 _ rfl
    have q6 : (w3).cell? ⟨W.heap.size, 6, none⟩ = some (.bool kids) := (HB3.out).cell 6 _ rfl
    have q7 : (w3).cell? ⟨W.heap.size, 7, none⟩ = some (.bool once) := (HB3.out).cell 7 _ rfl
    have p0 : (w3).cell? ⟨db, 0, none⟩ = some (.int .i64 kind) := (HD3.out).cell 0 _ rfl
    have p1 : (w3).cell? ⟨db, 1, none⟩ = some (.int .i64 session) := (HD3.out).cell 1 _ rfl
    have p2 : (w3).cell? ⟨db, 2, none⟩ = some (.int .i64 req) := (HD3.out).cell 2 _ rfl
    have p3 : (w3).cell? ⟨db, 3, none⟩ = some (.int .i64 noted) := (HD3.out).cell 3 _ rfl
    have p4 : (w3).cell? ⟨db, 4, none⟩ = some (.slice B ops.length cb) := (HD3.out).cell 4 _ rfl
    have p5 : (w3).cell? ⟨db, 5, none⟩ = some (.string (S path)) := (HD3.out).cell 5 _ rfl
    have p6 : (w3).cell? ⟨db, 6, none⟩ = some (.bool kids) := (HD3.out).cell 6 _ rfl
    have p7 : (w3).cell? ⟨db, 7, none⟩ = some (.bool once) := (HD3.out).cell 7 _ rfl
    go_wp2_with fail
    refine (same_eq _ ⟨kind, session, req, noted, ops, path, kids, once⟩ ⟨kind, session, req, noted, ops, path, kids, once⟩ _ _ _ _ HS3.out HSB3.out (by show ops.length ≤ _; omega) (by show ops.length ≤ _; omega) (decide_eq_true rfl)).mono ?_
    rintro e w4 ⟨rfl, hk⟩
    replace HS3 := hide (HS3.out.keep hk (fun _ _ h => h))
    replace HSB3 := hide (HSB3.out.keep hk (fun _ _ h => h))
    replace HROW3 := hide (HROW3.out.kept hk (fun _ _ h => h))
    replace HB3 := hide (HB3.out.kept hk (fun h => h))
    replace HD3 := hide (HD3.out.kept hk (fun h => h))
    replace HK3 := hide (HK3.out.trans' hk)
    clear hk q0 q1 q2 q3 q4 q5 q6 q7 p0 p1 p2 p3 p4 p5 p6 p7
    go_upto_block 0 with fail
    generalize wrap64 ((IntKind.u64.wrap which).tmod 10) = x
    go_cut [] (fun wx => AP W db (⟨kind, session, req, noted, ops, path, kids, once⟩ : CmdT) A cap wx)
    case first =>
      have p0 : (w4).cell? ⟨db, 0, none⟩ = some (.int .i64 kind) := (HD3.out).cell 0 _ rfl
      have p1 : (w4).cell? ⟨db, 1, none⟩ = some (.int .i64 session) := (HD3.out).cell 1 _ rfl
      have p2 : (w4).cell? ⟨db, 2, none⟩ = some (.int .i64 req) := (HD3.out).cell 2 _ rfl
      have p3 : (w4).cell? ⟨db, 3, none⟩ = some (.int .i64 noted) := (HD3.out).cell 3 _ rfl
      have p4 : (w4).cell? ⟨db, 4, none⟩ = some (.slice B ops.length cb) := (HD3.out).cell 4 _ rfl
      have p5 : (w4).cell? ⟨db, 5, none⟩ = some (.string (S path)) := (HD3.out).cell 5 _ rfl
      have p6 : (w4).cell? ⟨db, 6, none⟩ = some (.bool kids) := (HD3.out).cell 6 _ rfl
      have p7 : (w4).cell? ⟨db, 7, none⟩ = some (.bool once) := (HD3.out).cell 7 _ rfl
      have f0 := HD3.out.fz 0
      have f1 := HD3.out.fz 1
      have f2 := HD3.out.fz 2
      have f3 := HD3.out.fz 3
      have f4 := HD3.out.fz 4
      have f5 := HD3.out.fz 5
      have f6 := HD3.out.fz 6
      have f7 := HD3.out.fz 7
      by_cases hn : ops.length = 0
      · have hz : ((ops.length : Int) == 0) = true := by simp [hn]
        have HN := hide hn
        clear hn
        go_wp2_with (at_builtin; go_must (refine wpList_app slO rfl (.tmp 66) (.tmp 68) rfl (Row.alloc HROW3.out _) rfl (Src.block (heap_alloc_new _ _) 6 1 rfl) rfl (by simp [Value.oneCell']) (by unfold maxLen; omega) (by omega) ?_); intro v9 w9 hrow9 hg9; obtain ⟨B9, cb9, e9, _, _, hs9, had9⟩ := Row.form hrow9; have hd9 := (HD3.out.alloc _).kept hg9.keeps (by cases hB : B with | none => simp [Value.ownBlock] | some ad => have := HBG.out ad hB; simp [Value.ownBlock]; omega); have hb9 := (HB3.out.alloc _).kept hg9.keeps (by cases hB : B with | none => simp [Value.ownBlock] | some ad => have := HBG.out ad hB; simp [Value.ownBlock]; omega); have p9 : w9.cell? ⟨db, 4, none⟩ = some (.slice B ops.length cb) := hd9.cell 4 _ rfl; have f9 := hd9.fz 4; have HD9 := hide hd9; have HB9 := hide hb9; have HS9 := hide hs9; have HG9 := hide hg9; have HAD9 := hide had9; clear hd9 hb9 hs9 hg9 had9 hrow9; subst e9)
        all_goals first
          | (go_meet
             case rel => first
               | ((with_reducible (show AP _ _ _ _ _ (World.setCell _ ⟨_, 0, none⟩ _))); exact ap_set (B := B) (cb := cb) (cb2 := cb) hWd HA.out HBG.out HB3.out HD3.out HS3.out HK3.out ⟨wrap64 (kind + 1), session, req, noted, ops, path, kids, once⟩ HSB3.out (by show ops.length ≤ 11; omega) 0 _ rfl (fun e => wrap_ne _ (congrArg CmdT.kind e)))
               | ((with_reducible (show AP _ _ _ _ _ (World.setCell _ ⟨_, 1, none⟩ _))); exact ap_set (B := B) (cb := cb) (cb2 := cb) hWd HA.out HBG.out HB3.out HD3.out HS3.out HK3.out ⟨kind, wrap64 (session + 1), req, noted, ops, path, kids, once⟩ HSB3.out (by show ops.length ≤ 11; omega) 1 _ rfl (fun e => wrap_ne _ (congrArg CmdT.session e)))
               | ((with_reducible (show AP _ _ _ _ _ (World.setCell _ ⟨_, 2, none⟩ _))); exact ap_set (B := B) (cb := cb) (cb2 := cb) hWd HA.out HBG.out HB3.out HD3.out HS3.out HK3.out ⟨kind, session, wrap64 (req + 1), noted, ops, path, kids, once⟩ HSB3.out (by show ops.length ≤ 11; omega) 2 _ rfl (fun e => wrap_ne _ (congrArg CmdT.req e)))
               | ((with_reducible (show AP _ _ _ _ _ (World.setCell _ ⟨_, 3, none⟩ _))); exact ap_set (B := B) (cb := cb) (cb2 := cb) hWd HA.out HBG.out HB3.out HD3.out HS3.out HK3.out ⟨kind, session, req, wrap64 (noted + 1), ops, path, kids, once⟩ HSB3.out (by show ops.length ≤ 11; omega) 3 _ rfl (fun e => wrap_ne _ (congrArg CmdT.noted e)))
               | ((with_reducible (show AP _ _ _ _ _ (World.setCell _ ⟨_, 5, none⟩ _))); rw [S_x]; exact ap_set (B := B) (cb := cb) (cb2 := cb) hWd HA.out HBG.out HB3.out HD3.out HS3.out HK3.out ⟨kind, session, req, noted, ops, path ++ [120], kids, once⟩ HSB3.out (by show ops.length ≤ 11; omega) 5 _ rfl (fun e => by have := congrArg CmdT.path e; simp at this))
               | ((with_reducible (show AP _ _ _ _ _ (World.setCell _ ⟨_, 6, none⟩ _))); exact ap_set (B := B) (cb := cb) (cb2 := cb) hWd HA.out HBG.out HB3.out HD3.out HS3.out HK3.out ⟨kind, session, req, noted, ops, path, !kids, once⟩ HSB3.out (by show ops.length ≤ 11; omega) 6 _ rfl (fun e => ne_not _ (congrArg CmdT.kids e)))
               | ((with_reducible (show AP _ _ _ _ _ (World.setCell _ ⟨_, 7, none⟩ _))); exact ap_set (B := B) (cb := cb) (cb2 := cb) hWd HA.out HBG.out HB3.out HD3.out HS3.out HK3.out ⟨kind, session, req, noted, ops, path, kids, !once⟩ HSB3.out (by show ops.length ≤ 11; omega) 7 _ rfl (fun e => ne_not _ (congrArg CmdT.once e)))
               | ((with_reducible (show AP _ _ _ _ _ (World.setCell _ ⟨_, 4, none⟩ _))); exact ap_app hWd HA.out HBG.out HB3.out HD3.out HS3.out HK3.out HB9.out HD9.out HG9.out HAD9.out HS9.out hl))
          | (go_ret
             exact ⟨rfl, HF.out HK3.out⟩)
      · have hpos : 0 < ops.length := by omega
        have hz : ((ops.length : Int) == 0) = false := by simp [hn]
        obtain ⟨ad, o, rfl, hx, _, _, _, _, _, b5⟩ := ops_at HSB3.out hpos
        obtain ⟨g, rfl⟩ : ∃ g, ad = ⟨g, 0, none⟩ := ⟨_, HAD3.out ad rfl⟩
        have hg : db < g := HBG.out _ rfl
        have e0 : (⟨g, 0, none⟩ : Addr).add (0 * 6) = ⟨g, 0, none⟩ := by rw [add0]
        rw [e0] at b5
        have b5' : w4.cell? ⟨g, 5, none⟩ = some (.bool o.own) := b5
        obtain ⟨cur, hcur⟩ := Row.typed HROW3.out (g := g) rfl
        have bz : w4.frozen? ⟨g, 5, none⟩ = false := Blk.fz hcur 5
        have HX : Hid (∃ r, ops = o :: r) := by
          cases ops with
          | nil => simp at hpos
          | cons a r => simp at hx; exact ⟨r, by rw [hx]⟩
        have HN := hide hn
        clear hn hx b5 e0 hcur
        go_wp2_with (at_builtin; go_must (refine wpList_app slO rfl (.tmp 66) (.tmp 68) rfl (Row.alloc HROW3.out _) rfl (Src.block (heap_alloc_new _ _) 6 1 rfl) rfl (by simp [Value.oneCell']) (by unfold maxLen; omega) (by omega) ?_); intro v9 w9 hrow9 hg9; obtain ⟨B9, cb9, e9, _, _, hs9, had9⟩ := Row.form hrow9; have hd9 := (HD3.out.alloc _).kept hg9.keeps (by simp [Value.ownBlock]; omega); have hb9 := (HB3.out.alloc _).kept hg9.keeps (by simp [Value.ownBlock]; omega); have p9 : w9.cell? ⟨db, 4, none⟩ = some (.slice (some ⟨g, 0, none⟩) ops.length cb) := hd9.cell 4 _ rfl; have f9 := hd9.fz 4; have HD9 := hide hd9; have HB9 := hide hb9; have HS9 := hide hs9; have HG9 := hide hg9; have HAD9 := hide had9; clear hd9 hb9 hs9 hg9 had9 hrow9; subst e9)
        all_goals try (go_still_tail 10, (by kernel_rfl); change wpList _ _ _ _ _ w4.drew; go_wp2_with fail)
        all_goals first
          | (go_meet
             case rel => first
               | ((with_reducible (show AP _ _ _ _ _ (World.setCell _ ⟨_, 0, none⟩ _))); exact ap_set (B := some ⟨g, 0, none⟩) (cb := cb) (cb2 := cb) hWd HA.out HBG.out HB3.out HD3.out HS3.out HK3.out ⟨wrap64 (kind + 1), session, req, noted, ops, path, kids, once⟩ HSB3.out (by show ops.length ≤ 11; omega) 0 _ rfl (fun e => wrap_ne _ (congrArg CmdT.kind e)))
               | ((with_reducible (show AP _ _ _ _ _ (World.setCell _ ⟨_, 1, none⟩ _))); exact ap_set (B := some ⟨g, 0, none⟩) (cb := cb) (cb2 := cb) hWd HA.out HBG.out HB3.out HD3.out HS3.out HK3.out ⟨kind, wrap64 (session + 1), req, noted, ops, path, kids, once⟩ HSB3.out (by show ops.length ≤ 11; omega) 1 _ rfl (fun e => wrap_ne _ (congrArg CmdT.session e)))
               | ((with_reducible (show AP _ _ _ _ _ (World.setCell _ ⟨_, 2, none⟩ _))); exact ap_set (B := some ⟨g, 0, none⟩) (cb := cb) (cb2 := cb) hWd HA.out HBG.out HB3.out HD3.out HS3.out HK3.out ⟨kind, session, wrap64 (req + 1), noted, ops, path, kids, once⟩ HSB3.out (by show ops.length ≤ 11; omega) 2 _ rfl (fun e => wrap_ne _ (congrArg CmdT.req e)))
               | ((with_reducible (show AP _ _ _ _ _ (World.setCell _ ⟨_, 3, none⟩ _))); exact ap_set (B := some ⟨g, 0, none⟩) (cb := cb) (cb2 := cb) hWd HA.out HBG.out HB3.out HD3.out HS3.out HK3.out ⟨kind, session, req, wrap64 (noted + 1), ops, path, kids, once⟩ HSB3.out (by show ops.length ≤ 11; omega) 3 _ rfl (fun e => wrap_ne _ (congrArg CmdT.noted e)))
               | ((with_reducible (show AP _ _ _ _ _ (World.setCell _ ⟨_, 5, none⟩ _))); rw [S_x]; exact ap_set (B := some ⟨g, 0, none⟩) (cb := cb) (cb2 := cb) hWd HA.out HBG.out HB3.out HD3.out HS3.out HK3.out ⟨kind, session, req, noted, ops, path ++ [120], kids, once⟩ HSB3.out (by show ops.length ≤ 11; omega) 5 _ rfl (fun e => by have := congrArg CmdT.path e; simp at this))
               | ((with_reducible (show AP _ _ _ _ _ (World.setCell _ ⟨_, 6, none⟩ _))); exact ap_set (B := some ⟨g, 0, none⟩) (cb := cb) (cb2 := cb) hWd HA.out HBG.out HB3.out HD3.out HS3.out HK3.out ⟨kind, session, req, noted, ops, path, !kids, once⟩ HSB3.out (by show ops.length ≤ 11; omega) 6 _ rfl (fun e => ne_not _ (congrArg CmdT.kids e)))
               | ((with_reducible (show AP _ _ _ _ _ (World.setCell _ ⟨_, 7, none⟩ _))); exact ap_set (B := some ⟨g, 0, none⟩) (cb := cb) (cb2 := cb) hWd HA.out HBG.out HB3.out HD3.out HS3.out HK3.out ⟨kind, session, req, noted, ops, path, kids, !once⟩ HSB3.out (by show ops.length ≤ 11; omega) 7 _ rfl (fun e => ne_not _ (congrArg CmdT.once e)))
               | ((with_reducible (show AP _ _ _ _ _ (World.setCell _ ⟨_, 4, none⟩ _))); exact ap_app hWd HA.out HBG.out HB3.out HD3.out HS3.out HK3.out HB9.out HD9.out HG9.out HAD9.out HS9.out hl))
          | (go_meet
             case rel => obtain ⟨r, hr⟩ := HX.out; exact (have kd : Keeps (fun _ => False) w4 w4.drew := (Keeps.refl _ w4).drew; ap_own (o := o) (r := r) hr hWd hg HA.out (HB3.out.kept kd (fun h => h)) (HD3.out.kept kd (fun h => h)) (HS3.out.keep kd (fun _ _ h => h)) HK3.out.drew (HSB3.out.keep kd (fun _ _ h => h)) hl))
          | (go_ret
             exact ⟨rfl, HF.out HK3.out⟩)
    case rest =>
      obtain ⟨d, B2, cb2, hb, hd, hsa, hsb, hne, hl2, hk⟩ := hcut
      obtain ⟨dk, dse, drq, dno, dops, dp, dki, don⟩ := d
      simp only at hsb hl2
      have HB4 := hide hb
      have HD4 := hide hd
      have HSA := hide hsa
      have HSB4 := hide hsb
      have HNE := hide hne
      have HK4 := hide hk
      clear hb hd hsa hsb hne hk
      have q0 : (wc).cell? ⟨W.heap.size, 0, none⟩ = some (.int .i64 kind) := (HB4.out).cell 0 _ rfl
      have q1 : (wc).cell? ⟨W.heap.size, 1, none⟩ = some (.int .i64 session) := (HB4.out).cell 1 _ rfl
      have q2 : (wc).cell? ⟨W.heap.size, 2, none⟩ = some (.int .i64 req) := (HB4.out).cell 2 _ rfl
      have q3 : (wc).cell? ⟨W.heap.size, 3, none⟩ = some (.int .i64 noted) := (HB4.out).cell 3 _ rfl
      have q4 : (wc).cell? ⟨W.heap.size, 4, none⟩ = some (.slice A ops.length cap) := (HB4.out).cell 4 _ rfl
      have q5 : (wc).cell? ⟨W.heap.size, 5, none⟩ = some (.string (S path)) := (HB4.out).cell 5 _ rfl
      have q6 : (wc).cell? ⟨W.heap.size, 6, none⟩ = some (.bool kids) := (HB4.out).cell 6 _ rfl
      have q7 : (wc).cell? ⟨W.heap.size, 7, none⟩ = some (.bool once) := (HB4.out).cell 7 _ rfl
      have p0 : (wc).cell? ⟨db, 0, none⟩ = some (.int .i64 dk) := (HD4.out).cell 0 _ rfl
      have p1 : (wc).cell? ⟨db, 1, none⟩ = some (.int .i64 dse) := (HD4.out).cell 1 _ rfl
      have p2 : (wc).cell? ⟨db, 2, none⟩ = some (.int .i64 drq) := (HD4.out).cell 2 _ rfl
      have p3 : (wc).cell? ⟨db, 3, none⟩ = some (.int .i64 dno) := (HD4.out).cell 3 _ rfl
      have p4 : (wc).cell? ⟨db, 4, none⟩ = some (.slice B2 dops.length cb2) := (HD4.out).cell 4 _ rfl
      have p5 : (wc).cell? ⟨db, 5, none⟩ = some (.string (S dp)) := (HD4.out).cell 5 _ rfl
      have p6 : (wc).cell? ⟨db, 6, none⟩ = some (.bool dki) := (HD4.out).cell 6 _ rfl
      have p7 : (wc).cell? ⟨db, 7, none⟩ = some (.bool don) := (HD4.out).cell 7 _ rfl
      go_wp2_with fail
      refine (same_eq _ ⟨kind, session, req, noted, ops, path, kids, once⟩ (⟨dk, dse, drq, dno, dops, dp, dki, don⟩ : CmdT) _ _ _ _ HSA.out HSB4.out (by show ops.length ≤ _; omega) (by show dops.length ≤ _; omega) (decide_eq_false (fun e => HNE.out e.symm))).mono ?_
      rintro e w5 ⟨rfl, hk⟩
      replace HB4 := hide (HB4.out.kept hk (fun h => h))
      replace HD4 := hide (HD4.out.kept hk (fun h => h))
      replace HSA := hide (HSA.out.keep hk (fun _ _ h => h))
      replace HSB4 := hide (HSB4.out.keep hk (fun _ _ h => h))
      replace HK4 := hide (HK4.out.trans' hk)
      clear hk q0 q1 q2 q3 q4 q5 q6 q7 p0 p1 p2 p3 p4 p5 p6 p7
      have q0 : (w5).cell? ⟨W.heap.size, 0, none⟩ = some (.int .i64 kind) := (HB4.out).cell 0 _ rfl
      have q1 : (w5).cell? ⟨W.heap.size, 1, none⟩ = some (.int .i64 session) := (HB4.out).cell 1 _ rfl
      have q2 : (w5).cell? ⟨W.heap.size, 2, none⟩ = some (.int .i64 req) := (HB4.out).cell 2 _ rfl
      have q3 : (w5).cell? ⟨W.heap.size, 3, none⟩ = some (.int .i64 noted) := (HB4.out).cell 3 _ rfl
      have q4 : (w5).cell? ⟨W.heap.size, 4, none⟩ = some (.slice A ops.length cap) := (HB4.out).cell 4 _ rfl
      have q5 : (w5).cell? ⟨W.heap.size, 5, none⟩ = some (.string (S path)) := (HB4.out).cell 5 _ rfl
      have q6 : (w5).cell? ⟨W.heap.size, 6, none⟩ = some (.bool kids) := (HB4.out).cell 6 _ rfl
      have q7 : (w5).cell? ⟨W.heap.size, 7, none⟩ = some (.bool once) := (HB4.out).cell 7 _ rfl
      have p0 : (w5).cell? ⟨db, 0, none⟩ = some (.int .i64 dk) := (HD4.out).cell 0 _ rfl
      have p1 : (w5).cell? ⟨db, 1, none⟩ = some (.int .i64 dse) := (HD4.out).cell 1 _ rfl
      have p2 : (w5).cell? ⟨db, 2, none⟩ = some (.int .i64 drq) := (HD4.out).cell 2 _ rfl
      have p3 : (w5).cell? ⟨db, 3, none⟩ = some (.int .i64 dno) := (HD4.out).cell 3 _ rfl
      have p4 : (w5).cell? ⟨db, 4, none⟩ = some (.slice B2 dops.length cb2) := (HD4.out).cell 4 _ rfl
      have p5 : (w5).cell? ⟨db, 5, none⟩ = some (.string (S dp)) := (HD4.out).cell 5 _ rfl
      have p6 : (w5).cell? ⟨db, 6, none⟩ = some (.bool dki) := (HD4.out).cell 6 _ rfl
      have p7 : (w5).cell? ⟨db, 7, none⟩ = some (.bool don) := (HD4.out).cell 7 _ rfl
      go_wp2_with fail
      refine (same_eq _ (⟨dk, dse, drq, dno, dops, dp, dki, don⟩ : CmdT) ⟨kind, session, req, noted, ops, path, kids, once⟩ _ _ _ _ HSB4.out HSA.out (by show dops.length ≤ _; omega) (by show ops.length ≤ _; omega) (decide_eq_false HNE.out)).mono ?_
      rintro e w6 ⟨rfl, hk⟩
      replace HK4 := hide (HK4.out.trans' hk)
      clear hk q0 q1 q2 q3 q4 q5 q6 q7 p0 p1 p2 p3 p4 p5 p6 p7
      go_wp2_with fail
      go_ret
      exact ⟨rfl, HF.out HK4.out⟩

end Go.Proofs.Ytinpnnfeggjbeaa
