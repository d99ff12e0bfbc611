/- Paths that end in a part: what up and check answer; names with a number. Plain. -/
import Derived.Test.YtecpfnobnpddaaaDoorJoinP
import Derived.Test.YtecpfnobnpddaaaDoorNumb
import Derived.Test.YtecpfnobnpddaaaDoorTree
set_option linter.unusedVariables false
set_option linter.unusedSimpArgs false
namespace Go.Proofs.YtecpfnobnpddaaaDoor

theorem upF_cat (l p : List UInt8) (h : (47 : UInt8) ∉ p) (hp : p ≠ []) : upF (l ++ 47 :: p) = (if l = [] then [47] else l, p) := by
  unfold upF
  rw [last_sep l p h, if_neg (by
    rintro (h1 | h1)
    · have h2 := congrArg List.length h1
      have h3 : 1 ≤ p.length := by cases p with | nil => exact absurd rfl hp | cons a r => simp
      simp at h2
      omega
    · omega)]
  by_cases h0 : l = []
  · subst h0
    simp
  · rw [if_neg (by simpa using h0), if_neg h0]
    simp
theorem cutL_join (c : UInt8) (l p : List UInt8) : cutL c (l ++ c :: p) = cutL c l ++ cutL c p := by
  induction l with
  | nil => simp [cutL]
  | cons b r ih =>
    have e1 : cutL c (b :: r) = if b = c then [] :: cutL c r else match cutL c r with | p :: ps => (b :: p) :: ps | [] => [[b]] := by rw [cutL]; rfl
    have e2 : cutL c (b :: (r ++ c :: p)) = if b = c then [] :: cutL c (r ++ c :: p) else match cutL c (r ++ c :: p) with | p :: ps => (b :: p) :: ps | [] => [[b]] := by rw [cutL]; rfl
    rw [List.cons_append, e1, e2, ih]
    by_cases hb : b = c
    · rw [if_pos hb, if_pos hb, List.cons_append]
    · rw [if_neg hb, if_neg hb]
      obtain ⟨q, qs, e⟩ := cutL_ne c r
      rw [e]
      rfl
theorem check_cat (l p : List UInt8) (hl : (cutL 47 l).all partF = true) (hp : partF p = true) (hn : l.length + p.length ≤ 58) : checkF (47 :: l ++ 47 :: p) = 0 := by
  have h1 := part_len hp
  unfold checkF
  rw [if_neg (by
    intro h
    have := congrArg List.length h
    simp at this), if_neg (by simp; omega)]
  have e : List.drop 1 (47 :: l ++ 47 :: p) = l ++ 47 :: p := rfl
  rw [e, cutL_join, List.all_append, hl, cutL_none_ (part_slash hp)]
  simp [hp]
theorem check_part (p : List UInt8) (hp : partF p = true) : checkF (47 :: p) = 0 := by
  have h1 := part_len hp
  unfold checkF
  rw [if_neg (by
    intro h
    have := congrArg List.length h
    simp at this
    simp [this] at h1), if_neg (by simp; omega)]
  have e : List.drop 1 (47 :: p) = p := rfl
  rw [e, cutL_none_ (part_slash hp)]
  simp [hp]

/-- the name below the root with a number -/
def numP (k : Nat) : List UInt8 := 110 :: fixD 10 k
def numN (k : Nat) : List UInt8 := 47 :: numP k
theorem numP_part (k : Nat) : partF (numP k) = true := by
  have h1 : (fixD 10 k).all okc = true := by
    rw [List.all_eq_true]
    intro b hb
    have := fixD_digit 10 k b hb
    simp [okc]
    omega
  have h2 : okc 110 = true := by decide
  simp [partF, numP, fixD_length, h1, h2]
theorem serial_num (k : Nat) (hk : k < 10 ^ 10) : serialF [47, 110] k = numN k := by
  have := (pad_fix 10 k (by decide) hk).2
  show [47, 110] ++ Lib.repeatL [48] (10 - (Lib.decDigits k).length) ++ Lib.decDigits k = _
  rw [List.append_assoc, this]
  rfl
theorem check_num (k : Nat) : checkF (numN k) = 0 := check_part _ (numP_part k)
theorem up_num (k : Nat) : upF (numN k) = ([47], numP k) := by
  have := upF_cat [] (numP k) (part_slash (numP_part k)) (by simp [numP])
  exact this
theorem num_inj {j k : Nat} (hj : j < 10 ^ 10) (hk : k < 10 ^ 10) : numN j = numN k ↔ j = k := by
  unfold numN numP
  rw [List.cons_inj_right, List.cons_inj_right, fixD_inj 10 j k hj hk]
theorem num_root (k : Nat) : numN k ≠ [47] := by simp [numN, numP]
theorem num_less {j k : Nat} (hj : j < 10 ^ 10) (hk : k < 10 ^ 10) : Op.bytesLess (numN j) (numN k) = decide (j < k) := by
  have := less_app [47, 110] (fixD 10 j) (fixD 10 k)
  exact this.trans (fixD_less 10 j k hj hk)
theorem check_n : checkF [47, 110] = 0 := by decide
theorem up_n : upF [47, 110] = ([47], [110]) := upF_cat [] [110] (by decide) (by decide)

/-! ### Create, case by case -/
def moreN (a : NodeT) (f : Bool) : NodeT := ⟨a.data, a.version, a.below + 1, a.owner, a.made, a.set, if f = true then a.serial + 1 else a.serial⟩
def newN (data : List UInt8) (owner when_ : Int) : NodeT := ⟨data, 0, 0, owner, when_, when_, 0⟩
theorem createG_eq (T : TreeT) (s up : List UInt8) (a : NodeT) (data : List UInt8) (owner when_ : Int) (f : Bool) : createG T s up a data owner when_ f =
    if (mget T s).isSome = true then ([], 12, T) else if 60 ≤ T.length then ([], 16, T) else (s, 0, mput (mput T up (moreN a f)) s (newN data owner when_)) := rfl
theorem createF_at {T : TreeT} {s up last data : List UInt8} {a : NodeT} (owner when_ : Int) (h1 : checkF s = 0) (h2 : s ≠ [47]) (h3 : data.length ≤ 60) (h4 : upF s = (up, last)) (h5 : mget T up = some a) (h6 : a.owner = 0) :
    createF T s data owner when_ true = (if checkF (serialF s a.serial) ≠ 0 then ([], 10, T) else createG T (serialF s a.serial) up a data owner when_ true) ∧ createF T s data owner when_ false = createG T s up a data owner when_ false := by
  have h7 : ¬ 60 < data.length := by omega
  constructor
  · unfold createF
    rw [if_neg (by rw [h1]; decide), if_neg h2, if_neg h7, h4]
    simp [h5, h6]
  · unfold createF
    rw [if_neg (by rw [h1]; decide), if_neg h2, if_neg h7, h4]
    simp [h5, h6]
theorem createF_num {T : TreeT} {s up last data s2 : List UInt8} {a : NodeT} (owner when_ : Int) (h1 : checkF s = 0) (h2 : s ≠ [47]) (h3 : data.length ≤ 60) (h4 : upF s = (up, last)) (h5 : mget T up = some a) (h6 : a.owner = 0)
    (h7 : serialF s a.serial = s2) (h8 : checkF s2 = 0) (h9 : mget T s2 = none) : createF T s data owner when_ true = if 60 ≤ T.length then ([], 16, T) else (s2, 0, mput (mput T up (moreN a true)) s2 (newN data owner when_)) := by
  rw [(createF_at owner when_ h1 h2 h3 h4 h5 h6).1, h7, if_neg (by simp [h8]), createG_eq, h9, if_neg (by simp)]
theorem createF_new {T : TreeT} {s up last data : List UInt8} {a : NodeT} (owner when_ : Int) (h1 : checkF s = 0) (h2 : s ≠ [47]) (h3 : data.length ≤ 60) (h4 : upF s = (up, last)) (h5 : mget T up = some a) (h6 : a.owner = 0)
    (h9 : mget T s = none) : createF T s data owner when_ false = if 60 ≤ T.length then ([], 16, T) else (s, 0, mput (mput T up (moreN a false)) s (newN data owner when_)) := by
  rw [(createF_at owner when_ h1 h2 h3 h4 h5 h6).2, createG_eq, h9, if_neg (by simp)]
end Go.Proofs.YtecpfnobnpddaaaDoor
