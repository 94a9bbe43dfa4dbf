/- A valid command: its canonical form; its line parses as it. -/
import Derived.Test.YtfbpipknhghneaaDoorPlR
import Derived.Test.YtfbpipknhghneaaDoorKno30
namespace Go.Proofs.YtfbpipknhghneaaDoor
open Go.RowKit
/-- What Check's silence says. -/
theorem chkF_zero (c : Cm) (fl most : Int) (h : chkF c fl most = 0) :
    (bits BinOp.andNot .i64 (orL (psC c)) fl != 0) = false ∧ ((bits BinOp.and .i64 fl 1 != 0) = true → siteB (bl c.name) = true) ∧ ((bits BinOp.and .i64 fl 2 != 0) = true → c.id ≠ zI) ∧ (rgs c).all (okR fl) = true := by
  unfold chkF at h
  split at h
  · cases h
  split at h
  · cases h
  split at h
  · cases h
  split at h
  · cases h
  next h1 h2 h3 h4 =>
  refine ⟨by simpa using h1, fun h5 => ?_, fun h5 => ?_, by simpa using h4⟩
  · rw [h5] at h2
    simpa using h2
  · rw [h5] at h3
    simpa using h3
def flagsL : List Int := [17, 6, 10, 2, 34, 74, 64, 0]
def useB (fl a : Int) (b : Bool) : Bool := !b || (bits BinOp.and .i64 fl a != 0)
theorem unused_all : (flagsL.all fun fl => [true, false].all fun b1 => [true, false].all fun b2 => [true, false].all fun b3 => [true, false].all fun b4 => [true, false].all fun b5 => [true, false].all fun b6 => [true, false].all fun b7 =>
    (bits BinOp.andNot .i64 (orL (psL b1 b2 b3 b4 b5 b6 b7)) fl != 0) || (useB fl 1 b1 && useB fl 2 b2 && useB fl 4 b3 && useB fl 8 b4 && useB fl 16 b5 && useB fl 32 b6 && useB fl 64 b7)) = true := by decide +kernel
theorem all_bool (p : Bool → Bool) (h : [true, false].all p = true) (b : Bool) : p b = true := by
  simp only [List.all_cons, List.all_nil, Bool.and_true, Bool.and_eq_true] at h
  cases b
  · exact h.2
  · exact h.1
theorem unused (fl : Int) (hf : fl ∈ flagsL) (b1 b2 b3 b4 b5 b6 b7 : Bool) (h : (bits BinOp.andNot .i64 (orL (psL b1 b2 b3 b4 b5 b6 b7)) fl != 0) = false) :
    useB fl 1 b1 = true ∧ useB fl 2 b2 = true ∧ useB fl 4 b3 = true ∧ useB fl 8 b4 = true ∧ useB fl 16 b5 = true ∧ useB fl 32 b6 = true ∧ useB fl 64 b7 = true := by
  have h1 := all_bool _ (all_bool _ (all_bool _ (all_bool _ (all_bool _ (all_bool _ (all_bool _ (List.all_eq_true.1 unused_all fl hf) b1) b2) b3) b4) b5) b6) b7
  rw [h, Bool.false_or] at h1
  simp only [Bool.and_eq_true] at h1
  exact ⟨h1.1.1.1.1.1.1, h1.1.1.1.1.1.2, h1.1.1.1.1.2, h1.1.1.1.2, h1.1.1.2, h1.1.2, h1.2⟩
theorem empty_of (s : ByteArray) (h : s.toList.isEmpty = true) : s = ⟨#[]⟩ := by
  rw [isE, decide_eq_true_eq] at h
  exact bl_inj (List.length_eq_zero_iff.1 (by rw [bl_length]; exact h))
/-- What a valid command holds, its form's flags known. -/
structure Canon (c : Cm) (fl : Int) : Prop where
  name : bits BinOp.and .i64 fl 1 = 0 → c.name = ⟨#[]⟩
  id : bits BinOp.and .i64 fl 2 = 0 → c.id = zI
  size : bits BinOp.and .i64 fl 4 = 0 → c.size = 0
  from_ : bits BinOp.and .i64 fl 8 = 0 → c.from_ = 0
  count : bits BinOp.and .i64 fl 16 = 0 → c.count = 0
  code : bits BinOp.and .i64 fl 32 = 0 → c.code = 0
  text : bits BinOp.and .i64 fl 64 = 0 → c.text = ⟨#[]⟩
  site : bits BinOp.and .i64 fl 1 ≠ 0 → siteB (bl c.name) = true
  idn : bits BinOp.and .i64 fl 2 ≠ 0 → c.id ≠ zI
  sizer : bits BinOp.and .i64 fl 4 ≠ 0 → 1 ≤ c.size ∧ c.size ≤ 65536
  fromr : bits BinOp.and .i64 fl 8 ≠ 0 → 0 ≤ c.from_ ∧ c.from_ ≤ 65536
  countr : bits BinOp.and .i64 fl 16 ≠ 0 → 1 ≤ c.count ∧ c.count ≤ 1000
  coder : bits BinOp.and .i64 fl 32 ≠ 0 → 1 ≤ c.code ∧ c.code ≤ 99
theorem canon (c : Cm) (h : chk c = 0) : Canon c (formC c).2.1 := by
  obtain ⟨h1, h2⟩ := chk_verb c h
  obtain ⟨k, hk⟩ : ∃ k : Nat, c.verb = (k : Int) := ⟨c.verb.toNat, by omega⟩
  have hk12 : k < formsL.length := by show k < 12; omega
  have hfc : formC c = formsL[k] := by unfold formC; rw [hk, Int.toNat_natCast, List.getElem?_eq_getElem hk12]; rfl
  have hfl : (formC c).2.1 ∈ flagsL := by
    have h3 : formsL.all (fun x => flagsL.contains x.2.1) = true := by decide
    have h4 := List.all_eq_true.1 h3 _ (List.getElem_mem hk12)
    rw [hfc]
    simpa using h4
  have hz : chkF c (formC c).2.1 (formC c).2.2 = 0 := by
    unfold chk at h
    rw [if_neg (by omega)] at h
    exact h
  generalize (formC c).2.1 = fl at hfl hz ⊢
  obtain ⟨e1, e2, e3, e4⟩ := chkF_zero c fl _ hz
  obtain ⟨u1, u2, u3, u4, u5, u6, u7⟩ := unused fl hfl _ _ _ _ _ _ _ e1
  have key : ∀ (a : Int) (b : Bool), useB fl a b = true → bits BinOp.and .i64 fl a = 0 → b = false := by
    intro a b hu h0
    unfold useB at hu
    rw [h0] at hu
    simpa using hu
  have okr : ∀ x ∈ rgs c, bits BinOp.and .i64 fl x.1 ≠ 0 → x.2.2.1 ≤ x.2.1 ∧ x.2.1 ≤ x.2.2.2 := by
    intro x hx h0
    have h5 := List.all_eq_true.1 e4 x hx
    unfold okR at h5
    rw [show (bits BinOp.and .i64 fl x.1 == 0) = false by simpa using h0] at h5
    simpa using h5
  refine ⟨fun h0 => empty_of _ (by simpa using key _ _ u1 h0), fun h0 => by simpa using key _ _ u2 h0, fun h0 => by simpa using key _ _ u3 h0, fun h0 => by simpa using key _ _ u4 h0, fun h0 => by simpa using key _ _ u5 h0, fun h0 => by simpa using key _ _ u6 h0, fun h0 => empty_of _ (by simpa using key _ _ u7 h0), fun h0 => e2 (by simpa using h0), fun h0 => e3 (by simpa using h0),
    okr (4, c.size, 1, 65536) (by simp [rgs]), okr (8, c.from_, 0, 65536) (by simp [rgs]), okr (16, c.count, 1, 1000) (by simp [rgs]), okr (32, c.code, 1, 99) (by simp [rgs])⟩
/-- A line's words, and what they parse to. -/
structure LineOk (c : Cm) : Prop where
  word : ∀ w ∈ (wordsC (formC c).1 (formC c).2.1 (wdsC c)).map bl, w.all wordB = true
  len : (lineC c).length ≤ 190
  parse : parseL (lineC c) = ({ c with text := ⟨#[]⟩ }, true)
theorem words_all (wd : ByteArray) (fl : Int) (c : Cm) : wordsC wd fl (wdsC c) = wd :: ((if (bits BinOp.and .i64 fl 1 != 0) = true then [c.name] else []) ++ ((if (bits BinOp.and .i64 fl 2 != 0) = true then [textS c.id] else []) ++ ((if (bits BinOp.and .i64 fl 4 != 0) = true then [itoaB c.size] else []) ++ ((if (bits BinOp.and .i64 fl 8 != 0) = true then [itoaB c.from_] else []) ++ ((if (bits BinOp.and .i64 fl 16 != 0) = true then [itoaB c.count] else []) ++ (if (bits BinOp.and .i64 fl 32 != 0) = true then [itoaB c.code] else [])))))) := by
  have key : ∀ (x : Wd) (l : List Wd), ((x :: l).filter (useW fl)).map (·.2) = (if (bits BinOp.and .i64 fl x.1 != 0) = true then [x.2] else []) ++ (l.filter (useW fl)).map (·.2) := by
    intro x l
    rw [List.filter_cons]
    unfold useW
    split
    · rfl
    · rfl
  unfold wordsC wdsC
  rw [key, key, key, key, key, key]
  rw [List.filter_nil, List.map_nil, List.append_nil]
theorem parse_line (c : Cm) (hw : ∀ w ∈ (wordsC (formC c).1 (formC c).2.1 (wdsC c)).map bl, w.all wordB = true) : parseL (lineC c) = parseW (wordsC (formC c).1 (formC c).2.1 (wdsC c)) := by
  unfold parseL lineC
  rw [split_join _ (by unfold wordsC; simp) (fun w h => (wordB_no _ (hw w h)).1), List.map_map, show (mkB ∘ bl) = id from funext mkB_bl, List.map_id]
theorem line1 (nm : ByteArray) (hs : siteB (bl nm) = true) (n : Int) (h1 : 1 ≤ n) (h2 : n ≤ 1000) : LineOk ⟨1, nm, zI, 0, 0, n, 0, ⟨#[]⟩⟩ := by
  have hws : wordsC (formC ⟨1, nm, zI, 0, 0, n, 0, ⟨#[]⟩⟩).1 (formC ⟨1, nm, zI, 0, 0, n, 0, ⟨#[]⟩⟩).2.1 (wdsC ⟨1, nm, zI, 0, 0, n, 0, ⟨#[]⟩⟩) = [⟨#[104, 101, 108, 108, 111]⟩, nm, itoaB n] := by
    rw [words_all, show (formC ⟨1, nm, zI, 0, 0, n, 0, ⟨#[]⟩⟩).2.1 = 17 from rfl, if_pos (by decide), if_neg (by decide), if_neg (by decide), if_neg (by decide), if_pos (by decide), if_neg (by decide)]
    rfl
  have hw : ∀ w ∈ (wordsC (formC ⟨1, nm, zI, 0, 0, n, 0, ⟨#[]⟩⟩).1 (formC ⟨1, nm, zI, 0, 0, n, 0, ⟨#[]⟩⟩).2.1 (wdsC ⟨1, nm, zI, 0, 0, n, 0, ⟨#[]⟩⟩)).map bl, w.all wordB = true := by
    rw [hws]
    intro w hw
    simp only [List.map_cons, List.map_nil, List.mem_cons, List.not_mem_nil, or_false] at hw
    rcases hw with rfl | rfl | rfl
    · decide
    · exact (site_word _ hs).1
    · exact itoa_word n (by omega)
  refine ⟨hw, ?_, ?_⟩
  · unfold lineC
    refine Nat.le_trans (join_le _) ?_
    rw [hws]
    unfold lenB
    have l1 : nm.size ≤ 30 := by rw [← bl_length]; exact (site_word _ hs).2
    have l3 : (itoaB n).size ≤ 5 := Nat.le_trans (Nat.le_of_eq (Lib.size_eq _)) (itoa_len n (by omega) (by omega))
    simp only [List.map_cons, List.map_nil, List.sum_cons, List.sum_nil]
    have l0 : (⟨#[104, 101, 108, 108, 111]⟩ : ByteArray).size = 5 := rfl
    omega
  · rw [parse_line _ hw, hws]
    unfold parseW
    rw [show ([⟨#[104, 101, 108, 108, 111]⟩, nm, itoaB n] : List ByteArray).headD ⟨#[]⟩ = ⟨#[104, 101, 108, 108, 111]⟩ from rfl, show vb ⟨#[104, 101, 108, 108, 111]⟩ 11 = 1 by decide, if_neg (by decide)]
    simp only [rdL, List.foldl_cons, List.foldl_nil, List.drop_succ_cons, List.drop_zero]
    rw [stepP_read _ 1 (nm) _ _ ⟨1, nm, zI, 0, 0, 0, 0, ⟨#[]⟩⟩ (by decide) (by show (({ (⟨1, ⟨#[]⟩, zI, 0, 0, 0, 0, ⟨#[]⟩⟩ : Cm) with name := nm }, siteB (bl nm)) : Cm × Bool) = _; rw [hs])]
    rw [stepP_skip _ 2 _ (by decide)]
    rw [stepP_skip _ 4 _ (by decide)]
    rw [stepP_skip _ 8 _ (by decide)]
    rw [stepP_read _ 16 (itoaB n) _ ⟨1, nm, zI, 0, 0, 0, 0, ⟨#[]⟩⟩ ⟨1, nm, zI, 0, 0, n, 0, ⟨#[]⟩⟩ (by decide) (by show (({ (⟨1, nm, zI, 0, 0, 0, 0, ⟨#[]⟩⟩ : Cm) with count := (numR (itoaB n) 1 1000).1 }, (numR (itoaB n) 1 1000).2) : Cm × Bool) = _; rw [numR_itoa n 1 1000 h1 h2 (by omega)])]
    rw [stepP_skip _ 32 _ (by decide)]
    rfl
theorem line2 (x : Id) (hx : x ≠ zI) (n : Int) (h1 : 1 ≤ n) (h2 : n ≤ 65536) : LineOk ⟨2, ⟨#[]⟩, x, n, 0, 0, 0, ⟨#[]⟩⟩ := by
  have hws : wordsC (formC ⟨2, ⟨#[]⟩, x, n, 0, 0, 0, ⟨#[]⟩⟩).1 (formC ⟨2, ⟨#[]⟩, x, n, 0, 0, 0, ⟨#[]⟩⟩).2.1 (wdsC ⟨2, ⟨#[]⟩, x, n, 0, 0, 0, ⟨#[]⟩⟩) = [⟨#[111, 102, 102, 101, 114]⟩, textS x, itoaB n] := by
    rw [words_all, show (formC ⟨2, ⟨#[]⟩, x, n, 0, 0, 0, ⟨#[]⟩⟩).2.1 = 6 from rfl, if_neg (by decide), if_pos (by decide), if_pos (by decide), if_neg (by decide), if_neg (by decide), if_neg (by decide)]
    rfl
  have hw : ∀ w ∈ (wordsC (formC ⟨2, ⟨#[]⟩, x, n, 0, 0, 0, ⟨#[]⟩⟩).1 (formC ⟨2, ⟨#[]⟩, x, n, 0, 0, 0, ⟨#[]⟩⟩).2.1 (wdsC ⟨2, ⟨#[]⟩, x, n, 0, 0, 0, ⟨#[]⟩⟩)).map bl, w.all wordB = true := by
    rw [hws]
    intro w hw
    simp only [List.map_cons, List.map_nil, List.mem_cons, List.not_mem_nil, or_false] at hw
    rcases hw with rfl | rfl | rfl
    · decide
    · exact text_word x
    · exact itoa_word n (by omega)
  refine ⟨hw, ?_, ?_⟩
  · unfold lineC
    refine Nat.le_trans (join_le _) ?_
    rw [hws]
    unfold lenB
    have l2 := textS_size x
    have l3 : (itoaB n).size ≤ 5 := Nat.le_trans (Nat.le_of_eq (Lib.size_eq _)) (itoa_len n (by omega) (by omega))
    simp only [List.map_cons, List.map_nil, List.sum_cons, List.sum_nil]
    have l0 : (⟨#[111, 102, 102, 101, 114]⟩ : ByteArray).size = 5 := rfl
    omega
  · rw [parse_line _ hw, hws]
    unfold parseW
    rw [show ([⟨#[111, 102, 102, 101, 114]⟩, textS x, itoaB n] : List ByteArray).headD ⟨#[]⟩ = ⟨#[111, 102, 102, 101, 114]⟩ from rfl, show vb ⟨#[111, 102, 102, 101, 114]⟩ 11 = 2 by decide, if_neg (by decide)]
    simp only [rdL, List.foldl_cons, List.foldl_nil, List.drop_succ_cons, List.drop_zero]
    rw [stepP_skip _ 1 _ (by decide)]
    rw [stepP_read _ 2 (textS x) _ _ ⟨2, ⟨#[]⟩, x, 0, 0, 0, 0, ⟨#[]⟩⟩ (by decide) (by show (({ (⟨2, ⟨#[]⟩, zI, 0, 0, 0, 0, ⟨#[]⟩⟩ : Cm) with id := (idR (textS x)).1 }, (idR (textS x)).2) : Cm × Bool) = _; rw [idR_text x hx])]
    rw [stepP_read _ 4 (itoaB n) _ ⟨2, ⟨#[]⟩, x, 0, 0, 0, 0, ⟨#[]⟩⟩ ⟨2, ⟨#[]⟩, x, n, 0, 0, 0, ⟨#[]⟩⟩ (by decide) (by show (({ (⟨2, ⟨#[]⟩, x, 0, 0, 0, 0, ⟨#[]⟩⟩ : Cm) with size := (numR (itoaB n) 1 65536).1 }, (numR (itoaB n) 1 65536).2) : Cm × Bool) = _; rw [numR_itoa n 1 65536 h1 h2 (by omega)])]
    rw [stepP_skip _ 8 _ (by decide)]
    rw [stepP_skip _ 16 _ (by decide)]
    rw [stepP_skip _ 32 _ (by decide)]
    rfl
theorem line3 (x : Id) (hx : x ≠ zI) (n : Int) (h1 : 0 ≤ n) (h2 : n ≤ 65536) : LineOk ⟨3, ⟨#[]⟩, x, 0, n, 0, 0, ⟨#[]⟩⟩ := by
  have hws : wordsC (formC ⟨3, ⟨#[]⟩, x, 0, n, 0, 0, ⟨#[]⟩⟩).1 (formC ⟨3, ⟨#[]⟩, x, 0, n, 0, 0, ⟨#[]⟩⟩).2.1 (wdsC ⟨3, ⟨#[]⟩, x, 0, n, 0, 0, ⟨#[]⟩⟩) = [⟨#[119, 97, 110, 116]⟩, textS x, itoaB n] := by
    rw [words_all, show (formC ⟨3, ⟨#[]⟩, x, 0, n, 0, 0, ⟨#[]⟩⟩).2.1 = 10 from rfl, if_neg (by decide), if_pos (by decide), if_neg (by decide), if_pos (by decide), if_neg (by decide), if_neg (by decide)]
    rfl
  have hw : ∀ w ∈ (wordsC (formC ⟨3, ⟨#[]⟩, x, 0, n, 0, 0, ⟨#[]⟩⟩).1 (formC ⟨3, ⟨#[]⟩, x, 0, n, 0, 0, ⟨#[]⟩⟩).2.1 (wdsC ⟨3, ⟨#[]⟩, x, 0, n, 0, 0, ⟨#[]⟩⟩)).map bl, w.all wordB = true := by
    rw [hws]
    intro w hw
    simp only [List.map_cons, List.map_nil, List.mem_cons, List.not_mem_nil, or_false] at hw
    rcases hw with rfl | rfl | rfl
    · decide
    · exact text_word x
    · exact itoa_word n (by omega)
  refine ⟨hw, ?_, ?_⟩
  · unfold lineC
    refine Nat.le_trans (join_le _) ?_
    rw [hws]
    unfold lenB
    have l2 := textS_size x
    have l3 : (itoaB n).size ≤ 5 := Nat.le_trans (Nat.le_of_eq (Lib.size_eq _)) (itoa_len n (by omega) (by omega))
    simp only [List.map_cons, List.map_nil, List.sum_cons, List.sum_nil]
    have l0 : (⟨#[119, 97, 110, 116]⟩ : ByteArray).size = 4 := rfl
    omega
  · rw [parse_line _ hw, hws]
    unfold parseW
    rw [show ([⟨#[119, 97, 110, 116]⟩, textS x, itoaB n] : List ByteArray).headD ⟨#[]⟩ = ⟨#[119, 97, 110, 116]⟩ from rfl, show vb ⟨#[119, 97, 110, 116]⟩ 11 = 3 by decide, if_neg (by decide)]
    simp only [rdL, List.foldl_cons, List.foldl_nil, List.drop_succ_cons, List.drop_zero]
    rw [stepP_skip _ 1 _ (by decide)]
    rw [stepP_read _ 2 (textS x) _ _ ⟨3, ⟨#[]⟩, x, 0, 0, 0, 0, ⟨#[]⟩⟩ (by decide) (by show (({ (⟨3, ⟨#[]⟩, zI, 0, 0, 0, 0, ⟨#[]⟩⟩ : Cm) with id := (idR (textS x)).1 }, (idR (textS x)).2) : Cm × Bool) = _; rw [idR_text x hx])]
    rw [stepP_skip _ 4 _ (by decide)]
    rw [stepP_read _ 8 (itoaB n) _ ⟨3, ⟨#[]⟩, x, 0, 0, 0, 0, ⟨#[]⟩⟩ ⟨3, ⟨#[]⟩, x, 0, n, 0, 0, ⟨#[]⟩⟩ (by decide) (by show (({ (⟨3, ⟨#[]⟩, x, 0, 0, 0, 0, ⟨#[]⟩⟩ : Cm) with from_ := (numR (itoaB n) 0 65536).1 }, (numR (itoaB n) 0 65536).2) : Cm × Bool) = _; rw [numR_itoa n 0 65536 h1 h2 (by omega)])]
    rw [stepP_skip _ 16 _ (by decide)]
    rw [stepP_skip _ 32 _ (by decide)]
    rfl
theorem line4 (x : Id) (hx : x ≠ zI) : LineOk ⟨4, ⟨#[]⟩, x, 0, 0, 0, 0, ⟨#[]⟩⟩ := by
  have hws : wordsC (formC ⟨4, ⟨#[]⟩, x, 0, 0, 0, 0, ⟨#[]⟩⟩).1 (formC ⟨4, ⟨#[]⟩, x, 0, 0, 0, 0, ⟨#[]⟩⟩).2.1 (wdsC ⟨4, ⟨#[]⟩, x, 0, 0, 0, 0, ⟨#[]⟩⟩) = [⟨#[104, 97, 118, 101]⟩, textS x] := by
    rw [words_all, show (formC ⟨4, ⟨#[]⟩, x, 0, 0, 0, 0, ⟨#[]⟩⟩).2.1 = 2 from rfl, if_neg (by decide), if_pos (by decide), if_neg (by decide), if_neg (by decide), if_neg (by decide), if_neg (by decide)]
    rfl
  have hw : ∀ w ∈ (wordsC (formC ⟨4, ⟨#[]⟩, x, 0, 0, 0, 0, ⟨#[]⟩⟩).1 (formC ⟨4, ⟨#[]⟩, x, 0, 0, 0, 0, ⟨#[]⟩⟩).2.1 (wdsC ⟨4, ⟨#[]⟩, x, 0, 0, 0, 0, ⟨#[]⟩⟩)).map bl, w.all wordB = true := by
    rw [hws]
    intro w hw
    simp only [List.map_cons, List.map_nil, List.mem_cons, List.not_mem_nil, or_false] at hw
    rcases hw with rfl | rfl
    · decide
    · exact text_word x
  refine ⟨hw, ?_, ?_⟩
  · unfold lineC
    refine Nat.le_trans (join_le _) ?_
    rw [hws]
    unfold lenB
    have l2 := textS_size x
    simp only [List.map_cons, List.map_nil, List.sum_cons, List.sum_nil]
    have l0 : (⟨#[104, 97, 118, 101]⟩ : ByteArray).size = 4 := rfl
    omega
  · rw [parse_line _ hw, hws]
    unfold parseW
    rw [show ([⟨#[104, 97, 118, 101]⟩, textS x] : List ByteArray).headD ⟨#[]⟩ = ⟨#[104, 97, 118, 101]⟩ from rfl, show vb ⟨#[104, 97, 118, 101]⟩ 11 = 4 by decide, if_neg (by decide)]
    simp only [rdL, List.foldl_cons, List.foldl_nil, List.drop_succ_cons, List.drop_zero]
    rw [stepP_skip _ 1 _ (by decide)]
    rw [stepP_read _ 2 (textS x) _ _ ⟨4, ⟨#[]⟩, x, 0, 0, 0, 0, ⟨#[]⟩⟩ (by decide) (by show (({ (⟨4, ⟨#[]⟩, zI, 0, 0, 0, 0, ⟨#[]⟩⟩ : Cm) with id := (idR (textS x)).1 }, (idR (textS x)).2) : Cm × Bool) = _; rw [idR_text x hx])]
    rw [stepP_skip _ 4 _ (by decide)]
    rw [stepP_skip _ 8 _ (by decide)]
    rw [stepP_skip _ 16 _ (by decide)]
    rw [stepP_skip _ 32 _ (by decide)]
    rfl
theorem line5 (x : Id) (hx : x ≠ zI) : LineOk ⟨5, ⟨#[]⟩, x, 0, 0, 0, 0, ⟨#[]⟩⟩ := by
  have hws : wordsC (formC ⟨5, ⟨#[]⟩, x, 0, 0, 0, 0, ⟨#[]⟩⟩).1 (formC ⟨5, ⟨#[]⟩, x, 0, 0, 0, 0, ⟨#[]⟩⟩).2.1 (wdsC ⟨5, ⟨#[]⟩, x, 0, 0, 0, 0, ⟨#[]⟩⟩) = [⟨#[108, 97, 116, 101, 114]⟩, textS x] := by
    rw [words_all, show (formC ⟨5, ⟨#[]⟩, x, 0, 0, 0, 0, ⟨#[]⟩⟩).2.1 = 2 from rfl, if_neg (by decide), if_pos (by decide), if_neg (by decide), if_neg (by decide), if_neg (by decide), if_neg (by decide)]
    rfl
  have hw : ∀ w ∈ (wordsC (formC ⟨5, ⟨#[]⟩, x, 0, 0, 0, 0, ⟨#[]⟩⟩).1 (formC ⟨5, ⟨#[]⟩, x, 0, 0, 0, 0, ⟨#[]⟩⟩).2.1 (wdsC ⟨5, ⟨#[]⟩, x, 0, 0, 0, 0, ⟨#[]⟩⟩)).map bl, w.all wordB = true := by
    rw [hws]
    intro w hw
    simp only [List.map_cons, List.map_nil, List.mem_cons, List.not_mem_nil, or_false] at hw
    rcases hw with rfl | rfl
    · decide
    · exact text_word x
  refine ⟨hw, ?_, ?_⟩
  · unfold lineC
    refine Nat.le_trans (join_le _) ?_
    rw [hws]
    unfold lenB
    have l2 := textS_size x
    simp only [List.map_cons, List.map_nil, List.sum_cons, List.sum_nil]
    have l0 : (⟨#[108, 97, 116, 101, 114]⟩ : ByteArray).size = 5 := rfl
    omega
  · rw [parse_line _ hw, hws]
    unfold parseW
    rw [show ([⟨#[108, 97, 116, 101, 114]⟩, textS x] : List ByteArray).headD ⟨#[]⟩ = ⟨#[108, 97, 116, 101, 114]⟩ from rfl, show vb ⟨#[108, 97, 116, 101, 114]⟩ 11 = 5 by decide, if_neg (by decide)]
    simp only [rdL, List.foldl_cons, List.foldl_nil, List.drop_succ_cons, List.drop_zero]
    rw [stepP_skip _ 1 _ (by decide)]
    rw [stepP_read _ 2 (textS x) _ _ ⟨5, ⟨#[]⟩, x, 0, 0, 0, 0, ⟨#[]⟩⟩ (by decide) (by show (({ (⟨5, ⟨#[]⟩, zI, 0, 0, 0, 0, ⟨#[]⟩⟩ : Cm) with id := (idR (textS x)).1 }, (idR (textS x)).2) : Cm × Bool) = _; rw [idR_text x hx])]
    rw [stepP_skip _ 4 _ (by decide)]
    rw [stepP_skip _ 8 _ (by decide)]
    rw [stepP_skip _ 16 _ (by decide)]
    rw [stepP_skip _ 32 _ (by decide)]
    rfl
theorem line6 (x : Id) (hx : x ≠ zI) (n : Int) (h1 : 1 ≤ n) (h2 : n ≤ 99) : LineOk ⟨6, ⟨#[]⟩, x, 0, 0, 0, n, ⟨#[]⟩⟩ := by
  have hws : wordsC (formC ⟨6, ⟨#[]⟩, x, 0, 0, 0, n, ⟨#[]⟩⟩).1 (formC ⟨6, ⟨#[]⟩, x, 0, 0, 0, n, ⟨#[]⟩⟩).2.1 (wdsC ⟨6, ⟨#[]⟩, x, 0, 0, 0, n, ⟨#[]⟩⟩) = [⟨#[114, 101, 102, 117, 115, 101]⟩, textS x, itoaB n] := by
    rw [words_all, show (formC ⟨6, ⟨#[]⟩, x, 0, 0, 0, n, ⟨#[]⟩⟩).2.1 = 34 from rfl, if_neg (by decide), if_pos (by decide), if_neg (by decide), if_neg (by decide), if_neg (by decide), if_pos (by decide)]
    rfl
  have hw : ∀ w ∈ (wordsC (formC ⟨6, ⟨#[]⟩, x, 0, 0, 0, n, ⟨#[]⟩⟩).1 (formC ⟨6, ⟨#[]⟩, x, 0, 0, 0, n, ⟨#[]⟩⟩).2.1 (wdsC ⟨6, ⟨#[]⟩, x, 0, 0, 0, n, ⟨#[]⟩⟩)).map bl, w.all wordB = true := by
    rw [hws]
    intro w hw
    simp only [List.map_cons, List.map_nil, List.mem_cons, List.not_mem_nil, or_false] at hw
    rcases hw with rfl | rfl | rfl
    · decide
    · exact text_word x
    · exact itoa_word n (by omega)
  refine ⟨hw, ?_, ?_⟩
  · unfold lineC
    refine Nat.le_trans (join_le _) ?_
    rw [hws]
    unfold lenB
    have l2 := textS_size x
    have l3 : (itoaB n).size ≤ 5 := Nat.le_trans (Nat.le_of_eq (Lib.size_eq _)) (itoa_len n (by omega) (by omega))
    simp only [List.map_cons, List.map_nil, List.sum_cons, List.sum_nil]
    have l0 : (⟨#[114, 101, 102, 117, 115, 101]⟩ : ByteArray).size = 6 := rfl
    omega
  · rw [parse_line _ hw, hws]
    unfold parseW
    rw [show ([⟨#[114, 101, 102, 117, 115, 101]⟩, textS x, itoaB n] : List ByteArray).headD ⟨#[]⟩ = ⟨#[114, 101, 102, 117, 115, 101]⟩ from rfl, show vb ⟨#[114, 101, 102, 117, 115, 101]⟩ 11 = 6 by decide, if_neg (by decide)]
    simp only [rdL, List.foldl_cons, List.foldl_nil, List.drop_succ_cons, List.drop_zero]
    rw [stepP_skip _ 1 _ (by decide)]
    rw [stepP_read _ 2 (textS x) _ _ ⟨6, ⟨#[]⟩, x, 0, 0, 0, 0, ⟨#[]⟩⟩ (by decide) (by show (({ (⟨6, ⟨#[]⟩, zI, 0, 0, 0, 0, ⟨#[]⟩⟩ : Cm) with id := (idR (textS x)).1 }, (idR (textS x)).2) : Cm × Bool) = _; rw [idR_text x hx])]
    rw [stepP_skip _ 4 _ (by decide)]
    rw [stepP_skip _ 8 _ (by decide)]
    rw [stepP_skip _ 16 _ (by decide)]
    rw [stepP_read _ 32 (itoaB n) _ ⟨6, ⟨#[]⟩, x, 0, 0, 0, 0, ⟨#[]⟩⟩ ⟨6, ⟨#[]⟩, x, 0, 0, 0, n, ⟨#[]⟩⟩ (by decide) (by show (({ (⟨6, ⟨#[]⟩, x, 0, 0, 0, 0, ⟨#[]⟩⟩ : Cm) with code := (numR (itoaB n) 1 99).1 }, (numR (itoaB n) 1 99).2) : Cm × Bool) = _; rw [numR_itoa n 1 99 h1 h2 (by omega)])]
    rfl
theorem line7 (x : Id) (hx : x ≠ zI) (n : Int) (h1 : 0 ≤ n) (h2 : n ≤ 65536) (t : ByteArray) : LineOk ⟨7, ⟨#[]⟩, x, 0, n, 0, 0, t⟩ := by
  have hws : wordsC (formC ⟨7, ⟨#[]⟩, x, 0, n, 0, 0, t⟩).1 (formC ⟨7, ⟨#[]⟩, x, 0, n, 0, 0, t⟩).2.1 (wdsC ⟨7, ⟨#[]⟩, x, 0, n, 0, 0, t⟩) = [⟨#[100, 97, 116, 97]⟩, textS x, itoaB n] := by
    rw [words_all, show (formC ⟨7, ⟨#[]⟩, x, 0, n, 0, 0, t⟩).2.1 = 74 from rfl, if_neg (by decide), if_pos (by decide), if_neg (by decide), if_pos (by decide), if_neg (by decide), if_neg (by decide)]
    rfl
  have hw : ∀ w ∈ (wordsC (formC ⟨7, ⟨#[]⟩, x, 0, n, 0, 0, t⟩).1 (formC ⟨7, ⟨#[]⟩, x, 0, n, 0, 0, t⟩).2.1 (wdsC ⟨7, ⟨#[]⟩, x, 0, n, 0, 0, t⟩)).map bl, w.all wordB = true := by
    rw [hws]
    intro w hw
    simp only [List.map_cons, List.map_nil, List.mem_cons, List.not_mem_nil, or_false] at hw
    rcases hw with rfl | rfl | rfl
    · decide
    · exact text_word x
    · exact itoa_word n (by omega)
  refine ⟨hw, ?_, ?_⟩
  · unfold lineC
    refine Nat.le_trans (join_le _) ?_
    rw [hws]
    unfold lenB
    have l2 := textS_size x
    have l3 : (itoaB n).size ≤ 5 := Nat.le_trans (Nat.le_of_eq (Lib.size_eq _)) (itoa_len n (by omega) (by omega))
    simp only [List.map_cons, List.map_nil, List.sum_cons, List.sum_nil]
    have l0 : (⟨#[100, 97, 116, 97]⟩ : ByteArray).size = 4 := rfl
    omega
  · rw [parse_line _ hw, hws]
    unfold parseW
    rw [show ([⟨#[100, 97, 116, 97]⟩, textS x, itoaB n] : List ByteArray).headD ⟨#[]⟩ = ⟨#[100, 97, 116, 97]⟩ from rfl, show vb ⟨#[100, 97, 116, 97]⟩ 11 = 7 by decide, if_neg (by decide)]
    simp only [rdL, List.foldl_cons, List.foldl_nil, List.drop_succ_cons, List.drop_zero]
    rw [stepP_skip _ 1 _ (by decide)]
    rw [stepP_read _ 2 (textS x) _ _ ⟨7, ⟨#[]⟩, x, 0, 0, 0, 0, ⟨#[]⟩⟩ (by decide) (by show (({ (⟨7, ⟨#[]⟩, zI, 0, 0, 0, 0, ⟨#[]⟩⟩ : Cm) with id := (idR (textS x)).1 }, (idR (textS x)).2) : Cm × Bool) = _; rw [idR_text x hx])]
    rw [stepP_skip _ 4 _ (by decide)]
    rw [stepP_read _ 8 (itoaB n) _ ⟨7, ⟨#[]⟩, x, 0, 0, 0, 0, ⟨#[]⟩⟩ ⟨7, ⟨#[]⟩, x, 0, n, 0, 0, ⟨#[]⟩⟩ (by decide) (by show (({ (⟨7, ⟨#[]⟩, x, 0, 0, 0, 0, ⟨#[]⟩⟩ : Cm) with from_ := (numR (itoaB n) 0 65536).1 }, (numR (itoaB n) 0 65536).2) : Cm × Bool) = _; rw [numR_itoa n 0 65536 h1 h2 (by omega)])]
    rw [stepP_skip _ 16 _ (by decide)]
    rw [stepP_skip _ 32 _ (by decide)]
    rfl
theorem line8 (x : Id) (hx : x ≠ zI) : LineOk ⟨8, ⟨#[]⟩, x, 0, 0, 0, 0, ⟨#[]⟩⟩ := by
  have hws : wordsC (formC ⟨8, ⟨#[]⟩, x, 0, 0, 0, 0, ⟨#[]⟩⟩).1 (formC ⟨8, ⟨#[]⟩, x, 0, 0, 0, 0, ⟨#[]⟩⟩).2.1 (wdsC ⟨8, ⟨#[]⟩, x, 0, 0, 0, 0, ⟨#[]⟩⟩) = [⟨#[100, 111, 110, 101]⟩, textS x] := by
    rw [words_all, show (formC ⟨8, ⟨#[]⟩, x, 0, 0, 0, 0, ⟨#[]⟩⟩).2.1 = 2 from rfl, if_neg (by decide), if_pos (by decide), if_neg (by decide), if_neg (by decide), if_neg (by decide), if_neg (by decide)]
    rfl
  have hw : ∀ w ∈ (wordsC (formC ⟨8, ⟨#[]⟩, x, 0, 0, 0, 0, ⟨#[]⟩⟩).1 (formC ⟨8, ⟨#[]⟩, x, 0, 0, 0, 0, ⟨#[]⟩⟩).2.1 (wdsC ⟨8, ⟨#[]⟩, x, 0, 0, 0, 0, ⟨#[]⟩⟩)).map bl, w.all wordB = true := by
    rw [hws]
    intro w hw
    simp only [List.map_cons, List.map_nil, List.mem_cons, List.not_mem_nil, or_false] at hw
    rcases hw with rfl | rfl
    · decide
    · exact text_word x
  refine ⟨hw, ?_, ?_⟩
  · unfold lineC
    refine Nat.le_trans (join_le _) ?_
    rw [hws]
    unfold lenB
    have l2 := textS_size x
    simp only [List.map_cons, List.map_nil, List.sum_cons, List.sum_nil]
    have l0 : (⟨#[100, 111, 110, 101]⟩ : ByteArray).size = 4 := rfl
    omega
  · rw [parse_line _ hw, hws]
    unfold parseW
    rw [show ([⟨#[100, 111, 110, 101]⟩, textS x] : List ByteArray).headD ⟨#[]⟩ = ⟨#[100, 111, 110, 101]⟩ from rfl, show vb ⟨#[100, 111, 110, 101]⟩ 11 = 8 by decide, if_neg (by decide)]
    simp only [rdL, List.foldl_cons, List.foldl_nil, List.drop_succ_cons, List.drop_zero]
    rw [stepP_skip _ 1 _ (by decide)]
    rw [stepP_read _ 2 (textS x) _ _ ⟨8, ⟨#[]⟩, x, 0, 0, 0, 0, ⟨#[]⟩⟩ (by decide) (by show (({ (⟨8, ⟨#[]⟩, zI, 0, 0, 0, 0, ⟨#[]⟩⟩ : Cm) with id := (idR (textS x)).1 }, (idR (textS x)).2) : Cm × Bool) = _; rw [idR_text x hx])]
    rw [stepP_skip _ 4 _ (by decide)]
    rw [stepP_skip _ 8 _ (by decide)]
    rw [stepP_skip _ 16 _ (by decide)]
    rw [stepP_skip _ 32 _ (by decide)]
    rfl
theorem line9 (x : Id) (hx : x ≠ zI) : LineOk ⟨9, ⟨#[]⟩, x, 0, 0, 0, 0, ⟨#[]⟩⟩ := by
  have hws : wordsC (formC ⟨9, ⟨#[]⟩, x, 0, 0, 0, 0, ⟨#[]⟩⟩).1 (formC ⟨9, ⟨#[]⟩, x, 0, 0, 0, 0, ⟨#[]⟩⟩).2.1 (wdsC ⟨9, ⟨#[]⟩, x, 0, 0, 0, 0, ⟨#[]⟩⟩) = [⟨#[103, 111, 116]⟩, textS x] := by
    rw [words_all, show (formC ⟨9, ⟨#[]⟩, x, 0, 0, 0, 0, ⟨#[]⟩⟩).2.1 = 2 from rfl, if_neg (by decide), if_pos (by decide), if_neg (by decide), if_neg (by decide), if_neg (by decide), if_neg (by decide)]
    rfl
  have hw : ∀ w ∈ (wordsC (formC ⟨9, ⟨#[]⟩, x, 0, 0, 0, 0, ⟨#[]⟩⟩).1 (formC ⟨9, ⟨#[]⟩, x, 0, 0, 0, 0, ⟨#[]⟩⟩).2.1 (wdsC ⟨9, ⟨#[]⟩, x, 0, 0, 0, 0, ⟨#[]⟩⟩)).map bl, w.all wordB = true := by
    rw [hws]
    intro w hw
    simp only [List.map_cons, List.map_nil, List.mem_cons, List.not_mem_nil, or_false] at hw
    rcases hw with rfl | rfl
    · decide
    · exact text_word x
  refine ⟨hw, ?_, ?_⟩
  · unfold lineC
    refine Nat.le_trans (join_le _) ?_
    rw [hws]
    unfold lenB
    have l2 := textS_size x
    simp only [List.map_cons, List.map_nil, List.sum_cons, List.sum_nil]
    have l0 : (⟨#[103, 111, 116]⟩ : ByteArray).size = 3 := rfl
    omega
  · rw [parse_line _ hw, hws]
    unfold parseW
    rw [show ([⟨#[103, 111, 116]⟩, textS x] : List ByteArray).headD ⟨#[]⟩ = ⟨#[103, 111, 116]⟩ from rfl, show vb ⟨#[103, 111, 116]⟩ 11 = 9 by decide, if_neg (by decide)]
    simp only [rdL, List.foldl_cons, List.foldl_nil, List.drop_succ_cons, List.drop_zero]
    rw [stepP_skip _ 1 _ (by decide)]
    rw [stepP_read _ 2 (textS x) _ _ ⟨9, ⟨#[]⟩, x, 0, 0, 0, 0, ⟨#[]⟩⟩ (by decide) (by show (({ (⟨9, ⟨#[]⟩, zI, 0, 0, 0, 0, ⟨#[]⟩⟩ : Cm) with id := (idR (textS x)).1 }, (idR (textS x)).2) : Cm × Bool) = _; rw [idR_text x hx])]
    rw [stepP_skip _ 4 _ (by decide)]
    rw [stepP_skip _ 8 _ (by decide)]
    rw [stepP_skip _ 16 _ (by decide)]
    rw [stepP_skip _ 32 _ (by decide)]
    rfl
theorem line10 (t : ByteArray) : LineOk ⟨10, ⟨#[]⟩, zI, 0, 0, 0, 0, t⟩ := by
  have hws : wordsC (formC ⟨10, ⟨#[]⟩, zI, 0, 0, 0, 0, t⟩).1 (formC ⟨10, ⟨#[]⟩, zI, 0, 0, 0, 0, t⟩).2.1 (wdsC ⟨10, ⟨#[]⟩, zI, 0, 0, 0, 0, t⟩) = [⟨#[98, 97, 116, 99, 104]⟩] := by
    rw [words_all, show (formC ⟨10, ⟨#[]⟩, zI, 0, 0, 0, 0, t⟩).2.1 = 64 from rfl, if_neg (by decide), if_neg (by decide), if_neg (by decide), if_neg (by decide), if_neg (by decide), if_neg (by decide)]
    rfl
  have hw : ∀ w ∈ (wordsC (formC ⟨10, ⟨#[]⟩, zI, 0, 0, 0, 0, t⟩).1 (formC ⟨10, ⟨#[]⟩, zI, 0, 0, 0, 0, t⟩).2.1 (wdsC ⟨10, ⟨#[]⟩, zI, 0, 0, 0, 0, t⟩)).map bl, w.all wordB = true := by
    rw [hws]
    intro w hw
    simp only [List.map_cons, List.map_nil, List.mem_cons, List.not_mem_nil, or_false] at hw
    rcases hw with rfl
    · decide
  refine ⟨hw, ?_, ?_⟩
  · unfold lineC
    refine Nat.le_trans (join_le _) ?_
    rw [hws]
    unfold lenB
    simp only [List.map_cons, List.map_nil, List.sum_cons, List.sum_nil]
    have l0 : (⟨#[98, 97, 116, 99, 104]⟩ : ByteArray).size = 5 := rfl
    omega
  · rw [parse_line _ hw, hws]
    unfold parseW
    rw [show ([⟨#[98, 97, 116, 99, 104]⟩] : List ByteArray).headD ⟨#[]⟩ = ⟨#[98, 97, 116, 99, 104]⟩ from rfl, show vb ⟨#[98, 97, 116, 99, 104]⟩ 11 = 10 by decide, if_neg (by decide)]
    simp only [rdL, List.foldl_cons, List.foldl_nil, List.drop_succ_cons, List.drop_zero]
    rw [stepP_skip _ 1 _ (by decide)]
    rw [stepP_skip _ 2 _ (by decide)]
    rw [stepP_skip _ 4 _ (by decide)]
    rw [stepP_skip _ 8 _ (by decide)]
    rw [stepP_skip _ 16 _ (by decide)]
    rw [stepP_skip _ 32 _ (by decide)]
    rfl
theorem line11 : LineOk ⟨11, ⟨#[]⟩, zI, 0, 0, 0, 0, ⟨#[]⟩⟩ := by
  have hws : wordsC (formC ⟨11, ⟨#[]⟩, zI, 0, 0, 0, 0, ⟨#[]⟩⟩).1 (formC ⟨11, ⟨#[]⟩, zI, 0, 0, 0, 0, ⟨#[]⟩⟩).2.1 (wdsC ⟨11, ⟨#[]⟩, zI, 0, 0, 0, 0, ⟨#[]⟩⟩) = [⟨#[113, 117, 105, 116]⟩] := by
    rw [words_all, show (formC ⟨11, ⟨#[]⟩, zI, 0, 0, 0, 0, ⟨#[]⟩⟩).2.1 = 0 from rfl, if_neg (by decide), if_neg (by decide), if_neg (by decide), if_neg (by decide), if_neg (by decide), if_neg (by decide)]
    rfl
  have hw : ∀ w ∈ (wordsC (formC ⟨11, ⟨#[]⟩, zI, 0, 0, 0, 0, ⟨#[]⟩⟩).1 (formC ⟨11, ⟨#[]⟩, zI, 0, 0, 0, 0, ⟨#[]⟩⟩).2.1 (wdsC ⟨11, ⟨#[]⟩, zI, 0, 0, 0, 0, ⟨#[]⟩⟩)).map bl, w.all wordB = true := by
    rw [hws]
    intro w hw
    simp only [List.map_cons, List.map_nil, List.mem_cons, List.not_mem_nil, or_false] at hw
    rcases hw with rfl
    · decide
  refine ⟨hw, ?_, ?_⟩
  · unfold lineC
    refine Nat.le_trans (join_le _) ?_
    rw [hws]
    unfold lenB
    simp only [List.map_cons, List.map_nil, List.sum_cons, List.sum_nil]
    have l0 : (⟨#[113, 117, 105, 116]⟩ : ByteArray).size = 4 := rfl
    omega
  · rw [parse_line _ hw, hws]
    unfold parseW
    rw [show ([⟨#[113, 117, 105, 116]⟩] : List ByteArray).headD ⟨#[]⟩ = ⟨#[113, 117, 105, 116]⟩ from rfl, show vb ⟨#[113, 117, 105, 116]⟩ 11 = 11 by decide, if_neg (by decide)]
    simp only [rdL, List.foldl_cons, List.foldl_nil, List.drop_succ_cons, List.drop_zero]
    rw [stepP_skip _ 1 _ (by decide)]
    rw [stepP_skip _ 2 _ (by decide)]
    rw [stepP_skip _ 4 _ (by decide)]
    rw [stepP_skip _ 8 _ (by decide)]
    rw [stepP_skip _ 16 _ (by decide)]
    rw [stepP_skip _ 32 _ (by decide)]
    rfl
/-- A valid command's line. -/
theorem line_ok (c : Cm) (h : chk c = 0) : LineOk c := by
  obtain ⟨h1, h2⟩ := chk_verb c h
  have hc := canon c h
  obtain ⟨v, nm, x, sz, fr, co, cd, t⟩ := c
  simp only at h1 h2
  have hv : v = 1 ∨ v = 2 ∨ v = 3 ∨ v = 4 ∨ v = 5 ∨ v = 6 ∨ v = 7 ∨ v = 8 ∨ v = 9 ∨ v = 10 ∨ v = 11 := by omega
  clear h
  rcases hv with rfl | rfl | rfl | rfl | rfl | rfl | rfl | rfl | rfl | rfl | rfl
  · replace hc : Canon _ 17 := hc
    obtain rfl := hc.id (by decide)
    obtain rfl := hc.size (by decide)
    obtain rfl := hc.from_ (by decide)
    obtain rfl := hc.code (by decide)
    obtain rfl := hc.text (by decide)
    exact line1 nm (hc.site (by decide)) co (hc.countr (by decide)).1 (hc.countr (by decide)).2
  · replace hc : Canon _ 6 := hc
    obtain rfl := hc.name (by decide)
    obtain rfl := hc.from_ (by decide)
    obtain rfl := hc.count (by decide)
    obtain rfl := hc.code (by decide)
    obtain rfl := hc.text (by decide)
    exact line2 x (hc.idn (by decide)) sz (hc.sizer (by decide)).1 (hc.sizer (by decide)).2
  · replace hc : Canon _ 10 := hc
    obtain rfl := hc.name (by decide)
    obtain rfl := hc.size (by decide)
    obtain rfl := hc.count (by decide)
    obtain rfl := hc.code (by decide)
    obtain rfl := hc.text (by decide)
    exact line3 x (hc.idn (by decide)) fr (hc.fromr (by decide)).1 (hc.fromr (by decide)).2
  · replace hc : Canon _ 2 := hc
    obtain rfl := hc.name (by decide)
    obtain rfl := hc.size (by decide)
    obtain rfl := hc.from_ (by decide)
    obtain rfl := hc.count (by decide)
    obtain rfl := hc.code (by decide)
    obtain rfl := hc.text (by decide)
    exact line4 x (hc.idn (by decide))
  · replace hc : Canon _ 2 := hc
    obtain rfl := hc.name (by decide)
    obtain rfl := hc.size (by decide)
    obtain rfl := hc.from_ (by decide)
    obtain rfl := hc.count (by decide)
    obtain rfl := hc.code (by decide)
    obtain rfl := hc.text (by decide)
    exact line5 x (hc.idn (by decide))
  · replace hc : Canon _ 34 := hc
    obtain rfl := hc.name (by decide)
    obtain rfl := hc.size (by decide)
    obtain rfl := hc.from_ (by decide)
    obtain rfl := hc.count (by decide)
    obtain rfl := hc.text (by decide)
    exact line6 x (hc.idn (by decide)) cd (hc.coder (by decide)).1 (hc.coder (by decide)).2
  · replace hc : Canon _ 74 := hc
    obtain rfl := hc.name (by decide)
    obtain rfl := hc.size (by decide)
    obtain rfl := hc.count (by decide)
    obtain rfl := hc.code (by decide)
    exact line7 x (hc.idn (by decide)) fr (hc.fromr (by decide)).1 (hc.fromr (by decide)).2 t
  · replace hc : Canon _ 2 := hc
    obtain rfl := hc.name (by decide)
    obtain rfl := hc.size (by decide)
    obtain rfl := hc.from_ (by decide)
    obtain rfl := hc.count (by decide)
    obtain rfl := hc.code (by decide)
    obtain rfl := hc.text (by decide)
    exact line8 x (hc.idn (by decide))
  · replace hc : Canon _ 2 := hc
    obtain rfl := hc.name (by decide)
    obtain rfl := hc.size (by decide)
    obtain rfl := hc.from_ (by decide)
    obtain rfl := hc.count (by decide)
    obtain rfl := hc.code (by decide)
    obtain rfl := hc.text (by decide)
    exact line9 x (hc.idn (by decide))
  · replace hc : Canon _ 64 := hc
    obtain rfl := hc.name (by decide)
    obtain rfl := hc.id (by decide)
    obtain rfl := hc.size (by decide)
    obtain rfl := hc.from_ (by decide)
    obtain rfl := hc.count (by decide)
    obtain rfl := hc.code (by decide)
    exact line10 t
  · replace hc : Canon _ 0 := hc
    obtain rfl := hc.name (by decide)
    obtain rfl := hc.id (by decide)
    obtain rfl := hc.size (by decide)
    obtain rfl := hc.from_ (by decide)
    obtain rfl := hc.count (by decide)
    obtain rfl := hc.code (by decide)
    obtain rfl := hc.text (by decide)
    exact line11
end Go.Proofs.YtfbpipknhghneaaDoor
