/- The model of the statements of layer 11: what it is; which watch is ahead; Add. No condition. -/
import Derived.Test.YtbfogieeiobpdaaGreatDoorWActs
set_option linter.unusedVariables false
set_option linter.unusedSimpArgs false
namespace Go.Proofs.YtbfogieeiobpdaaGreatDoor
open Go.RowKit

/-- the model's numbers: no map yet, or one -/
def nosA (v : Value) (nos : List (Int × Int)) : Asn := fun h => (v = .map none ∧ nos = [] ∧ h = hnil) ∨ ∃ m, v = .map (some m) ∧ mapA kW kW m nos h
def mnotesA (b : Nat) (wv : Value) (es : List EvT) (nos : List (Int × Int)) : Asn := exA fun x : Value × Value =>
  star (cellsA b 32 #[wv, x.1, x.2]) (star (rowA 74 5 x.1 es.length (es.flatMap evC)) (nosA x.2 nos))
def modelA (b : Nat) (B : BookT) : Asn := exA fun wv : Value => star (mnotesA b wv B.es B.nos) (rowA 96 4 wv B.ws.length (B.ws.flatMap watC))
section
variable {g w : World} {L : List Asn} {b : Nat} {wv : Value} {es : List EvT} {nos : List (Int × Int)} {B : BookT}
theorem Sat.mnotesOpen (S : Sat g w (mnotesA b wv es nos :: L)) : ∃ (ev nv : Value), Sat g w (cellsA b 32 #[wv, ev, nv] :: rowA 74 5 ev es.length (es.flatMap evC) :: nosA nv nos :: L) := by
  obtain ⟨⟨ev, m⟩, S⟩ := S.ex
  exact ⟨ev, m, S.split.p1.split.p2⟩
theorem Sat.mnotesShut {ev nv : Value} (S : Sat g w (cellsA b 32 #[wv, ev, nv] :: rowA 74 5 ev es.length (es.flatMap evC) :: nosA nv nos :: L)) : Sat g w (mnotesA b wv es nos :: L) :=
  Sat.ex_ (ev, nv) (S.b2.join.p1.join)
theorem Sat.modelOpen (S : Sat g w (modelA b B :: L)) : ∃ wv : Value, Sat g w (mnotesA b wv B.es B.nos :: rowA 96 4 wv B.ws.length (B.ws.flatMap watC) :: L) := by
  obtain ⟨wv, S⟩ := S.ex
  exact ⟨wv, S.split⟩
theorem Sat.modelShut (S : Sat g w (mnotesA b wv B.es B.nos :: rowA 96 4 wv B.ws.length (B.ws.flatMap watC) :: L)) : Sat g w (modelA b B :: L) := Sat.ex_ wv S.join
theorem Sat.nosForm {nv : Value} (S : Sat g w (nosA nv nos :: L)) : (nv = .map none ∧ nos = [] ∧ Sat g w L) ∨ ∃ m, nv = .map (some m) ∧ Sat g w (mapA kW kW m nos :: L) := by
  obtain ⟨h, ⟨h1, h2, c, rfl, a, hL⟩, m⟩ := S.mem
  rcases a with ⟨rfl, rfl, rfl⟩ | ⟨mb, rfl, a⟩
  · exact .inl ⟨rfl, rfl, S.drop⟩
  · exact .inr ⟨mb, rfl, S.os, S.tape, S.output, _, ⟨h1, h2, c, rfl, a, hL⟩, m⟩
theorem Sat.nosNone (S : Sat g w L) : Sat g w (nosA (.map none) [] :: L) := (S.nil (p := True) trivial).head fun h a => .inl ⟨rfl, rfl, a.2⟩
theorem Sat.nosSome {m : Nat} (S : Sat g w (mapA kW kW m nos :: L)) : Sat g w (nosA (.map (some m)) nos :: L) := S.head fun h a => .inr ⟨m, rfl, a⟩
end

set_option maxRecDepth 100000 in
set_option maxHeartbeats 4000000 in
theorem before_watch (w : World) (x y : WatT) : Calls Tryz.prog 85 #[watV x, watV y] w fun e w' => e = .returned (.bool (decide (ordF x y < 0))) ∧ Keeps (fun _ => False) w w' := by
  have HC := hide (before_cases x y)
  generalize decide (ordF x y < 0) = R at *
  obtain ⟨s1, p1, k1, o1⟩ := x
  obtain ⟨s2, p2, k2, o2⟩ := y
  have S0 := ((Sat.start w).box #[.int .i64 s1, .string (Go.Proofs.YtbfogieeiobpdaaGreatDoor.S p1), .bool k1, .bool o1] 96 rfl).box #[.int .i64 s2, .string (Go.Proofs.YtbfogieeiobpdaaGreatDoor.S p2), .bool k2, .bool o2] 96 (b := w.heap.size + 1) (by simp)
  have HK := hide (S0.p2.keep_all)
  go_enter Tryz.func85, Tryz.ntmps85
  go_upto_region 1 with fail
  generalize (w.alloc (.cells #[.int .i64 s1, .string (Go.Proofs.YtbfogieeiobpdaaGreatDoor.S p1), .bool k1, .bool o1] 96)).alloc (.cells #[.int .i64 s2, .string (Go.Proofs.YtbfogieeiobpdaaGreatDoor.S p2), .bool k2, .bool o2] 96) = wB at *
  generalize w.heap.size = xb at *
  have a0 := S0.p1.cell 0 _ rfl
  have a1 := S0.p1.cell 1 _ rfl
  have a2 := S0.p1.cell 2 _ rfl
  have a3 := S0.p1.cell 3 _ rfl
  have b0 := S0.cell 0 _ rfl
  have b1 := S0.cell 1 _ rfl
  have b2 := S0.cell 2 _ rfl
  have b3 := S0.cell 3 _ rfl
  clear S0
  rcases HC.out with ⟨h1, h⟩ | ⟨h1, h2, h⟩ | ⟨h1, h2, h3, h⟩ | ⟨h1, h2, h3, h⟩
  · simp only at h1 h
    subst h
    have hb : (s1 == s2) = false := by simpa using h1
    by_cases hl : s1 < s2
    · clear HC
      go_wp2_with fail
      go_ret
      exact ⟨by simp [hl], HK.out⟩
    · clear HC
      have hl2 : decide (s1 < s2) = false := by simpa using hl
      go_wp2_with fail
      go_ret
      exact ⟨by simp, HK.out⟩
  · simp only at h1 h2 h
    subst h1 h
    have hb : (p1 == p2) = false := by simpa using h2
    clear HC
    go_wp2_with fail
    go_ret
    exact ⟨by simp, HK.out⟩
  · simp only at h1 h2 h3 h
    subst h1 h2 h
    clear HC
    cases k1 <;> cases R <;> simp at h3
    all_goals
      go_wp2_with fail
      go_ret
      exact ⟨by simp, HK.out⟩
  · simp only at h1 h2 h3 h
    subst h1 h2 h3 h
    clear HC
    cases o1 <;> cases o2
    all_goals
      go_wp2_with fail
      go_ret
      exact ⟨by simp, HK.out⟩

end Go.Proofs.YtbfogieeiobpdaaGreatDoor
