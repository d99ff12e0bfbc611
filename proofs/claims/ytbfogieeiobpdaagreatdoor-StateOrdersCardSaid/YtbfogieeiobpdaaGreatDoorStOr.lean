/- What two sessions' orders come to, in either order: plain. No condition. -/
import Derived.Test.YtbfogieeiobpdaaGreatDoorStW
set_option linter.unusedVariables false
set_option linter.unusedSimpArgs false
namespace Go.Proofs.YtbfogieeiobpdaaGreatDoor
open Go.RowKit

theorem notes_none (s : List UInt8) (what when_ : Int) : fireF ⟨[], [], []⟩ s what when_ = ⟨[], [], []⟩ := rfl
theorem fires_none (cs : List Chg) (when_ : Int) : firesF ⟨[], [], []⟩ cs when_ = ⟨[], [], []⟩ := by
  induction cs with
  | nil => rfl
  | cons c r ih => exact ih
theorem crowd_none {s : StT} (h : s.book = ⟨[], [], []⟩) : crowdF s = none := by
  unfold crowdF
  rw [h]
  exact List.find?_eq_none.2 fun x _ => by simp [overF]
theorem apply_upd {s : StT} {ss rq r : Int} {x : List UInt8} {o : OpT} (hb : s.book = ⟨[], [], []⟩) (hm : mget s.tab ss = some (r, x)) (hr : r < rq) (h1 : 1 ≤ rq ∧ rq ≤ 281474976710655) {R : StepT} (hs : stepF s.tree o ss (s.at_ + 1) = R) (he : R.err = 0) (hp : R.out.path.length ≤ 60) :
    (applyC s (madeF ss rq [o])).2 = ⟨R.tree, mput s.tab ss (rq, resB ⟨0, 0, [R.out], s.at_ + 1⟩), ⟨[], [], []⟩, s.at_ + 1⟩ := by
  have hseen : seenF s.tab ss rq = ([], false, 0) := by
    unfold seenF
    rw [hm]
    simp only
    rw [if_neg (by omega), if_neg (by omega), if_neg (by omega)]
  have hno : notedF s.book ss 0 = ⟨[], [], []⟩ := by rw [hb]; rfl
  have hup : updateF ⟨s.tree, s.tab, ⟨[], [], []⟩, s.at_ + 1⟩ (madeF ss rq [o]) (s.at_ + 1) = (⟨0, 0, [R.out], s.at_ + 1⟩, ⟨R.tree, s.tab, ⟨[], [], []⟩, s.at_ + 1⟩) := by
    have e1 : updL ss (s.at_ + 1) [o] 0 s.tree [] [] = (0, 1, R.tree, [R.out], if R.chg.2 ≠ 0 then [R.chg] else []) := by
      unfold updL
      rw [hs, if_neg (by simp [he])]
      rfl
    have e2 : updL (madeF ss rq [o]).session (s.at_ + 1) (madeF ss rq [o]).ops 0 s.tree [] [] = (0, 1, R.tree, [R.out], if R.chg.2 ≠ 0 then [R.chg] else []) := e1
    unfold updateF
    simp only [e2, fires_none]
    simp
  have hlen : (resB ⟨0, 0, [R.out], s.at_ + 1⟩).length ≤ 400 := by
    have h5 : (cut16 R.out.path).length ≤ 60 := by unfold cut16; simp; omega
    simp only [resB, outB, List.length_append, nums_length, List.flatMap_cons, List.flatMap_nil, txts, txt_length, List.length_cons, List.length_nil]
    omega
  have hcmd : cmdF ⟨s.tree, s.tab, s.book, s.at_ + 1⟩ (madeF ss rq [o]) (s.at_ + 1) = (⟨0, 0, [R.out], s.at_ + 1⟩, ⟨R.tree, mput s.tab ss (rq, resB ⟨0, 0, [R.out], s.at_ + 1⟩), ⟨[], [], []⟩, s.at_ + 1⟩) := by
    unfold cmdF
    rw [if_neg (by simp [madeF]), if_neg (by simp [madeF])]
    simp only [show (madeF ss rq [o]).session = ss from rfl, show (madeF ss rq [o]).req = rq from rfl, show (madeF ss rq [o]).noted = 0 from rfl, hseen, hno]
    rw [if_neg (by simp), if_neg (by simp), if_neg (by simp [madeF])]
    unfold doF
    rw [if_pos (by rfl), hup]
    simp only
    unfold keepF
    rw [hseen, if_neg (by simp), if_neg (by simp), if_neg (by omega)]
  unfold applyC
  rw [hcmd]
  exact crowdL_none (crowd_none rfl) _

/-! ### two sessions, a node each -/
def Vw (T : TreeT) (p : List UInt8) : Option (List UInt8 × Nat) → Prop
  | none => mget T p = none
  | some (d, v) => ∃ n, mget T p = some n ∧ n.data = d ∧ n.version = (v : Int) ∧ n.below = 0
def cntV : Option (List UInt8 × Nat) → Nat
  | none => 0
  | some _ => 1
structure OrI (s : StT) (p q : List UInt8) (ss tt : Int) (vp vq : Option (List UInt8 × Nat)) (r r' : Int) : Prop where
  book : s.book = ⟨[], [], []⟩
  root : ∃ a, mget s.tree [47] = some a ∧ a.owner = 0
  np : Vw s.tree p vp
  nq : Vw s.tree q vq
  len : s.tree.length = 1 + cntV vp + cntV vq
  tp : ∃ x, mget s.tab ss = some (r, x)
  tq : ∃ x, mget s.tab tt = some (r', x)
theorem OrI.swap {s : StT} {p q : List UInt8} {ss tt : Int} {vp vq : Option (List UInt8 × Nat)} {r r' : Int} (h : OrI s p q ss tt vp vq r r') : OrI s q p tt ss vq vp r' r :=
  ⟨h.book, h.root, h.nq, h.np, by have := h.len; omega, h.tq, h.tp⟩
theorem Vw.other {T : TreeT} {p q : List UInt8} {v : Option (List UInt8 × Nat)} {n : NodeT} (h : Vw T q v) (hpq : p ≠ q) : Vw (mput T p n) q v := by
  cases v with
  | none =>
    show mget (mput T p n) q = none
    rw [mget_mput, if_neg (fun e => hpq e.symm)]; exact h
  | some dv =>
    obtain ⟨m, h1, h2⟩ := h
    exact ⟨m, by rw [mget_mput, if_neg (fun e => hpq e.symm)]; exact h1, h2⟩
structure PathS (p x : List UInt8) : Prop where
  chk : checkF p = 0
  ne : p ≠ [47]
  up : upF p = ([47], x)
  len : p.length ≤ 60
def orC (ss : Int) (p : List UInt8) : CmdT := madeF ss 1 [⟨1, p, [], -1, false, false⟩]
def orD (ss : Int) (p : List UInt8) (i : Nat) (d : List UInt8) : CmdT := madeF ss (2 + (i : Int)) [⟨2, p, d.take 60, -1, false, false⟩]
def orDs (ss : Int) (p : List UInt8) : Nat → List (List UInt8) → List CmdT
  | _, [] => []
  | i, d :: r => orD ss p i d :: orDs ss p (i + 1) r
def orL (ss : Int) (p : List UInt8) (l : List (List UInt8)) : List CmdT := orC ss p :: orDs ss p 0 l
section
variable {s : StT} {p q x : List UInt8} {ss tt : Int} {vq : Option (List UInt8 × Nat)} {r r' : Int}
theorem OrI.create (h : OrI s p q ss tt none vq r r') (hP : PathS p x) (hpq : p ≠ q) (hq : q ≠ [47]) (hst : ss ≠ tt) (hr : r < 1) : OrI (applyC s (orC ss p)).2 p q ss tt (some ([], 0)) vq 1 r' := by
  obtain ⟨a, ha, ha0⟩ := h.root
  obtain ⟨y, hy⟩ := h.tp
  obtain ⟨z, hz⟩ := h.tq
  have hnp : mget s.tree p = none := h.np
  have hl := h.len
  have hc : cntV vq ≤ 1 := by cases vq <;> simp [cntV]
  have h0 : cntV none = 0 := rfl
  have hcr := createF_new (T := s.tree) (data := []) 0 (s.at_ + 1) hP.chk hP.ne (by simp) hP.up ha ha0 hnp
  rw [if_neg (by omega)] at hcr
  have hstep : stepF s.tree ⟨1, p, [], -1, false, false⟩ ss (s.at_ + 1) = ⟨⟨p, 0⟩, (p, 1), 0, mput (mput s.tree [47] (moreN a false)) p (newN [] 0 (s.at_ + 1))⟩ := by
    unfold stepF
    rw [if_pos rfl]
    simp only [Bool.false_eq_true, if_false, hcr]
  have e := apply_upd (s := s) (rq := 1) h.book hy hr (by omega) hstep rfl hP.len
  unfold orC
  rw [e]
  have hroot : (mget (mput s.tree [47] (moreN a false)) p) = none := by rw [mget_mput, if_neg hP.ne]; exact hnp
  refine ⟨rfl, ⟨moreN a false, ?_, ha0⟩, ⟨newN [] 0 (s.at_ + 1), ?_, rfl, rfl, rfl⟩, ?_, ?_, ⟨resB ⟨0, 0, [⟨p, 0⟩], s.at_ + 1⟩, ?_⟩, ⟨z, ?_⟩⟩
  · show mget (mput (mput s.tree [47] _) p _) [47] = _
    rw [mget_mput, if_neg (fun e => hP.ne e.symm), mget_mput, if_pos rfl]
  · show mget (mput _ p _) p = _
    rw [mget_mput, if_pos rfl]
  · exact (h.nq.other (fun e => hq e.symm)).other hpq
  · show (mput (mput s.tree [47] _) p _).length = _
    rw [length_mput, if_neg (mget_none.1 hroot), length_mput, if_pos (mem_keys_mget.2 ⟨a, ha⟩)]
    simp only [cntV] at hl ⊢
    omega
  · show mget (mput s.tab ss _) ss = _
    rw [mget_mput, if_pos rfl]
  · show mget (mput s.tab ss _) tt = _
    rw [mget_mput, if_neg (fun e => hst e.symm)]; exact hz
theorem OrI.set {d0 d : List UInt8} {v : Nat} (h : OrI s p q ss tt (some (d0, v)) vq r r') (hP : PathS p x) (hpq : p ≠ q) (hst : ss ≠ tt) {rq : Int} (hr : r < rq) (h1 : 1 ≤ rq ∧ rq ≤ 1000) (hd : d.length ≤ 60) :
    OrI (applyC s (madeF ss rq [⟨2, p, d, -1, false, false⟩])).2 p q ss tt (some (d, v + 1)) vq rq r' := by
  obtain ⟨a, ha, ha0⟩ := h.root
  obtain ⟨y, hy⟩ := h.tp
  obtain ⟨z, hz⟩ := h.tq
  obtain ⟨n, hn, hn1, hn2, hn3⟩ := h.np
  have hat : atF s.tree p (-1) = (n, 0) := by
    have hg : getF s.tree p = (n, 0) := by unfold getF; rw [if_pos hP.chk, hn]
    unfold atF
    rw [if_neg (by omega), hg]
  have hset : setF s.tree p d (-1) (s.at_ + 1) = (n.version + 1, 0, mput s.tree p ⟨d, n.version + 1, n.below, n.owner, n.made, s.at_ + 1, n.serial⟩) := by
    unfold setF
    rw [hat, if_neg (by simp), if_neg (by omega)]
  have hstep : stepF s.tree ⟨2, p, d, -1, false, false⟩ ss (s.at_ + 1) = ⟨⟨p, n.version + 1⟩, (p, 3), 0, mput s.tree p ⟨d, n.version + 1, n.below, n.owner, n.made, s.at_ + 1, n.serial⟩⟩ := by
    unfold stepF
    rw [if_neg (by simp), if_pos rfl]
    simp only [hset]
  have e := apply_upd (s := s) (rq := rq) h.book hy hr (by omega) hstep rfl hP.len
  rw [e]
  refine ⟨rfl, ⟨a, ?_, ha0⟩, ⟨⟨d, n.version + 1, n.below, n.owner, n.made, s.at_ + 1, n.serial⟩, ?_, rfl, ?_, hn3⟩, ?_, ?_, ⟨resB ⟨0, 0, [⟨p, n.version + 1⟩], s.at_ + 1⟩, ?_⟩, ⟨z, ?_⟩⟩
  · show mget (mput s.tree p _) [47] = _
    rw [mget_mput, if_neg (fun e => hP.ne e.symm)]; exact ha
  · show mget (mput _ p _) p = _
    rw [mget_mput, if_pos rfl]
  · show n.version + 1 = _
    omega
  · exact h.nq.other hpq
  · show (mput s.tree p _).length = _
    rw [length_mput, if_pos (mem_keys_mget.2 ⟨n, hn⟩)]
    exact h.len
  · show mget (mput s.tab ss _) ss = _
    rw [mget_mput, if_pos rfl]
  · show mget (mput s.tab ss _) tt = _
    rw [mget_mput, if_neg (fun e => hst e.symm)]; exact hz
end
def lastD (d0 : List UInt8) : List (List UInt8) → List UInt8
  | [] => d0
  | d :: r => lastD (d.take 60) r
theorem OrI.sets {p q x : List UInt8} {ss tt : Int} {vq : Option (List UInt8 × Nat)} {r' : Int} (hP : PathS p x) (hpq : p ≠ q) (hst : ss ≠ tt) (l : List (List UInt8)) :
    ∀ {s : StT} {d0 : List UInt8} {v i : Nat}, OrI s p q ss tt (some (d0, v)) vq (1 + (i : Int)) r' → i + l.length ≤ 100 → OrI (sayS s (orDs ss p i l)) p q ss tt (some (lastD d0 l, v + l.length)) vq (1 + ((i + l.length : Nat) : Int)) r' := by
  induction l with
  | nil => exact fun h _ => h
  | cons d r ih =>
    intro s d0 v i h hl
    simp only [List.length_cons] at hl
    have h2 := h.set hP hpq hst (rq := 2 + (i : Int)) (d := d.take 60) (by omega) (by omega) (by rw [List.length_take]; omega)
    have h3 := ih (s := (applyC s (orD ss p i d)).2) (d0 := d.take 60) (v := v + 1) (i := i + 1) (by rw [show (1 : Int) + ((i + 1 : Nat) : Int) = 2 + (i : Int) from by omega]; exact h2) (by omega)
    have e1 : v + 1 + r.length = v + (r.length + 1) := by omega
    have e2 : i + 1 + r.length = i + (r.length + 1) := by omega
    rw [e1, e2] at h3
    exact h3
theorem OrI.run {s : StT} {p q x : List UInt8} {ss tt : Int} {vq : Option (List UInt8 × Nat)} {r' : Int} (h : OrI s p q ss tt none vq 0 r') (hP : PathS p x) (hpq : p ≠ q) (hq : q ≠ [47]) (hst : ss ≠ tt) (l : List (List UInt8)) (hl : l.length ≤ 100) :
    OrI (sayS s (orL ss p l)) p q ss tt (some (lastD [] l, l.length)) vq (1 + (l.length : Int)) r' := by
  have h1 := h.create hP hpq hq hst (by omega)
  have h2 := OrI.sets hP hpq hst l (i := 0) (by simpa using h1) (by omega)
  rw [Nat.zero_add] at h2
  exact h2
theorem open2 : openS 2 = ⟨rootT, [(1, (0, [])), (2, (0, []))], ⟨[], [], []⟩, 2⟩ := by rw [open_K]; kernel_rfl
abbrev P1 : List UInt8 := [47, 115, 49]
abbrev P2 : List UInt8 := [47, 115, 50]
theorem p1_ok : PathS P1 [115, 49] := ⟨by decide, by decide, by kernel_rfl, by decide⟩
theorem p2_ok : PathS P2 [115, 50] := ⟨by decide, by decide, by kernel_rfl, by decide⟩
theorem or0 : OrI (openS 2) P1 P2 1 2 none none 0 0 := by
  rw [open2]
  exact ⟨rfl, ⟨zN, by decide, rfl⟩, by show mget rootT P1 = none; decide, by show mget rootT P2 = none; decide, by decide, ⟨[], by decide⟩, ⟨[], by decide⟩⟩
theorem say_app (s : StT) (a b : List CmdT) : sayS s (a ++ b) = sayS (sayS s a) b := List.foldl_append
theorem or_xy (a b : List (List UInt8)) (ha : a.length ≤ 8) (hb : b.length ≤ 8) : OrI (sayS (openS 2) (orL 1 P1 a ++ orL 2 P2 b)) P1 P2 1 2 (some (lastD [] a, a.length)) (some (lastD [] b, b.length)) (1 + (a.length : Int)) (1 + (b.length : Int)) := by
  rw [say_app]
  have h1 := or0.run p1_ok (by decide) (by decide) (by decide) a (by omega)
  exact (h1.swap.run p2_ok (by decide) (by decide) (by decide) b (by omega)).swap
theorem or_yx (a b : List (List UInt8)) (ha : a.length ≤ 8) (hb : b.length ≤ 8) : OrI (sayS (openS 2) (orL 2 P2 b ++ orL 1 P1 a)) P1 P2 1 2 (some (lastD [] a, a.length)) (some (lastD [] b, b.length)) (1 + (a.length : Int)) (1 + (b.length : Int)) := by
  rw [say_app]
  have h1 := or0.swap.run p2_ok (by decide) (by decide) (by decide) b (by omega)
  exact h1.swap.run p1_ok (by decide) (by decide) (by decide) a (by omega)
theorem Vw.get {T : TreeT} {p : List UInt8} {d : List UInt8} {v : Nat} (h : Vw T p (some (d, v))) (hc : checkF p = 0) : ∃ n, getF T p = (n, 0) ∧ n.data = d ∧ n.version = (v : Int) ∧ n.below = 0 := by
  obtain ⟨n, h1, h2⟩ := h
  exact ⟨n, by unfold getF; rw [if_pos hc, h1], h2⟩

/-! ### orders that may be given -/
theorem say_run (cs : List CmdT) : ∀ {s : StT} {k m : Nat}, RunS s k m → (∀ c ∈ cs, cmdR c = true ∧ c.ops.length ≤ 1) → k + 2 * cs.length ≤ 800 → m + cs.length ≤ 800 → RunS (sayS s cs) (k + 2 * cs.length) (m + cs.length) := by
  induction cs with
  | nil => exact fun h _ _ _ => h
  | cons c r ih =>
    intro s k m h hc hk hm
    simp only [List.length_cons] at hk hm
    obtain ⟨h1, h2⟩ := hc c (by simp)
    obtain ⟨⟨M, n, g1, g2⟩, g3⟩ := h.step h1 (by omega) (by omega)
    have h3 := ih (s := (applyC s c).2) (k := k + 2) (m := m + 1) ⟨⟨M, n, g1, by omega⟩, g3⟩ (fun c' hc' => hc c' (by simp [hc'])) (by omega) (by omega)
    obtain ⟨⟨M', n', k1, k2⟩, k3⟩ := h3
    exact ⟨⟨M', n', k1, by simp only [List.length_cons]; omega⟩, k3.trans (by simp only [List.length_cons]; omega)⟩
theorem orDs_len (ss : Int) (p : List UInt8) (i : Nat) (l : List (List UInt8)) : (orDs ss p i l).length = l.length := by
  induction l generalizing i with
  | nil => rfl
  | cons d r ih => simp [orDs, ih]
theorem orDs_R (ss : Int) (p : List UInt8) (h1 : 0 ≤ ss ∧ ss ≤ 1000) (hp : p.length ≤ 60) (l : List (List UInt8)) : ∀ i, i + l.length ≤ 100 → ∀ c ∈ orDs ss p i l, cmdR c = true ∧ c.ops.length ≤ 1 := by
  induction l with
  | nil => intro i _ c hc; cases hc
  | cons d r ih =>
    intro i hi c hc
    simp only [List.length_cons] at hi
    rcases List.mem_cons.1 hc with rfl | hc
    · refine ⟨made_R ss (2 + (i : Int)) _ h1 (by omega) ?_, by simp [orD, madeF]⟩
      simp [opR]
      omega
    · exact ih (i + 1) (by omega) c hc
theorem orL_R (ss : Int) (p : List UInt8) (h1 : 0 ≤ ss ∧ ss ≤ 1000) (hp : p.length ≤ 60) (l : List (List UInt8)) (hl : l.length ≤ 50) : ∀ c ∈ orL ss p l, cmdR c = true ∧ c.ops.length ≤ 1 := by
  intro c hc
  rcases List.mem_cons.1 hc with rfl | hc
  · refine ⟨made_R ss 1 _ h1 (by omega) ?_, by simp [orC, madeF]⟩
    simp [opR]
    omega
  · exact orDs_R ss p h1 hp l 0 (by omega) c hc
theorem orL_len (ss : Int) (p : List UInt8) (l : List (List UInt8)) : (orL ss p l).length = l.length + 1 := by simp [orL, orDs_len]
def textB (cs : List CmdT) : List (List UInt8) := cs.map fun c => (bytesF c).1

end Go.Proofs.YtbfogieeiobpdaaGreatDoor
