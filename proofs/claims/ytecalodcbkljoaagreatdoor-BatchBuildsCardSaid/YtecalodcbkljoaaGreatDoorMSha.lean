/- Words of 32 bits as values: what the operations of the program compute on them. SHA-256 as a plain function on lists of bytes: the words of a block, the rounds, the padded blocks, the digest. -/
import Derived.WalkKit
import Derived.Laws.BitsAllLaws
namespace Go.Proofs.YtecalodcbkljoaaGreatDoor
open Go.RowKit

/-- A word of 32 bits. -/
abbrev Wd := BitVec 32
/-- A word as an integer. -/
def iW (x : Wd) : Int := (x.toNat : Int)
/-- A word as a value. -/
abbrev vW (x : Wd) : Value := .int .u32 (iW x)

theorem iW_nonneg (x : Wd) : 0 ≤ iW x := by unfold iW; omega
theorem iW_lt (x : Wd) : iW x < 4294967296 := by
  have := x.isLt
  unfold iW
  omega
theorem wrap_iW (x : Wd) : IntKind.u32.wrap (iW x) = iW x := by
  have h0 := iW_nonneg x
  have h1 := iW_lt x
  simp only [IntKind.wrap, IntKind.bits, IntKind.signed]
  simp
  omega
theorem ofInt_iW (x : Wd) : BitVec.ofInt 32 (iW x) = x := by
  apply BitVec.eq_of_toNat_eq
  unfold iW
  rw [ofInt_u32 _ x.isLt]
theorem w_xor (a b : Wd) : bits .xor .u32 (iW a) (iW b) = iW (a ^^^ b) := by
  show IntKind.u32.wrap ((BitVec.ofInt 32 (iW a) ^^^ BitVec.ofInt 32 (iW b)).toNat : Int) = _
  rw [ofInt_iW, ofInt_iW]
  exact wrap_iW _
theorem w_and (a b : Wd) : bits .and .u32 (iW a) (iW b) = iW (a &&& b) := by
  show IntKind.u32.wrap ((BitVec.ofInt 32 (iW a) &&& BitVec.ofInt 32 (iW b)).toNat : Int) = _
  rw [ofInt_iW, ofInt_iW]
  exact wrap_iW _
theorem w_or (a b : Wd) : bits .or .u32 (iW a) (iW b) = iW (a ||| b) := by
  show IntKind.u32.wrap ((BitVec.ofInt 32 (iW a) ||| BitVec.ofInt 32 (iW b)).toNat : Int) = _
  rw [ofInt_iW, ofInt_iW]
  exact wrap_iW _
theorem w_not (a : Wd) : bits .xor .u32 4294967295 (iW a) = iW (~~~a) := by
  show IntKind.u32.wrap ((BitVec.ofInt 32 4294967295 ^^^ BitVec.ofInt 32 (iW a)).toNat : Int) = _
  rw [ofInt_iW, show (BitVec.ofInt 32 4294967295 : Wd) = BitVec.allOnes 32 by decide, BitVec.allOnes_xor]
  exact wrap_iW _
theorem w_add (a b : Wd) : IntKind.u32.wrap (iW a + iW b) = iW (a + b) := by
  rw [← wrap_iW (a + b)]
  unfold iW
  rw [BitVec.toNat_add]
  simp only [IntKind.wrap, IntKind.bits, IntKind.signed]
  simp
theorem w_shr (a : Wd) (n : Nat) : iW a / ((2 ^ n : Nat) : Int) = iW (a >>> n) := by
  unfold iW
  rw [BitVec.toNat_ushiftRight, Nat.shiftRight_eq_div_pow]
  omega
theorem w_shl (a : Wd) (n : Nat) : IntKind.u32.wrap (iW a * ((2 ^ n : Nat) : Int)) = iW (a <<< n) := by
  rw [← wrap_iW (a <<< n)]
  unfold iW
  rw [BitVec.toNat_shiftLeft, Nat.shiftLeft_eq]
  simp only [IntKind.wrap, IntKind.bits, IntKind.signed]
  simp
theorem w_shr3 (a : Wd) : iW a / (8 : Int) = iW (a >>> 3) := w_shr a 3
theorem w_shr10 (a : Wd) : iW a / (1024 : Int) = iW (a >>> 10) := w_shr a 10
theorem w_byte (a : Wd) : IntKind.u8.wrap (iW a) = ((UInt8.ofNat a.toNat).toNat : Int) := by
  unfold iW
  simp only [IntKind.wrap, IntKind.bits, IntKind.signed]
  simp
theorem w_ofByte (c : UInt8) : IntKind.u32.wrap (c.toNat : Int) = iW (BitVec.ofNat 32 c.toNat) := by
  have := c.toNat_lt
  unfold iW
  rw [BitVec.toNat_ofNat]
  simp only [IntKind.wrap, IntKind.bits, IntKind.signed]
  simp
  omega
theorem iW_lit (n : Nat) (h : n < 4294967296) : (n : Int) = iW (BitVec.ofNat 32 n) := by
  unfold iW
  rw [BitVec.toNat_ofNat, Nat.mod_eq_of_lt (by omega)]
theorem iW_inj {a b : Wd} (h : iW a = iW b) : a = b := BitVec.eq_of_toNat_eq (by unfold iW at h; omega)

end Go.Proofs.YtecalodcbkljoaaGreatDoor
namespace Go.Proofs.YtecalodcbkljoaaGreatDoor

/-- A word rotated to the right. -/
def rr (x : Wd) (n : Nat) : Wd := (x >>> n) ||| (x <<< (32 - n))
def sg0 (x : Wd) : Wd := rr x 7 ^^^ rr x 18 ^^^ (x >>> 3)
def sg1 (x : Wd) : Wd := rr x 17 ^^^ rr x 19 ^^^ (x >>> 10)

/-- The eight words of a state. -/
structure Vs where
  a : Wd
  b : Wd
  c : Wd
  d : Wd
  e : Wd
  f : Wd
  g : Wd
  i : Wd

/-- What a round adds. -/
def rndT (v : Vs) (k w : Wd) : Wd := v.i + (rr v.e 6 ^^^ rr v.e 11 ^^^ rr v.e 25) + ((v.e &&& v.f) ^^^ (~~~v.e &&& v.g)) + k + w
def rndU (v : Vs) : Wd := (rr v.a 2 ^^^ rr v.a 13 ^^^ rr v.a 22) + ((v.a &&& v.b) ^^^ (v.a &&& v.c) ^^^ (v.b &&& v.c))
/-- A round. -/
def rnd (v : Vs) (k w : Wd) : Vs := ⟨rndT v k w + rndU v, v.a, v.b, v.c, v.d + rndT v k w, v.e, v.f, v.g⟩
def addV (x y : Vs) : Vs := ⟨x.a + y.a, x.b + y.b, x.c + y.c, x.d + y.d, x.e + y.e, x.f + y.f, x.g + y.g, x.i + y.i⟩
/-- The state at the beginning. -/
def iniV : Vs := ⟨1779033703#32, 3144134277#32, 1013904242#32, 2773480762#32, 1359893119#32, 2600822924#32, 528734635#32, 1541459225#32⟩
/-- The constants of the rounds. -/
def kN : List Nat := [
  0x428a2f98, 0x71374491, 0xb5c0fbcf, 0xe9b5dba5, 0x3956c25b, 0x59f111f1, 0x923f82a4, 0xab1c5ed5,
  0xd807aa98, 0x12835b01, 0x243185be, 0x550c7dc3, 0x72be5d74, 0x80deb1fe, 0x9bdc06a7, 0xc19bf174,
  0xe49b69c1, 0xefbe4786, 0x0fc19dc6, 0x240ca1cc, 0x2de92c6f, 0x4a7484aa, 0x5cb0a9dc, 0x76f988da,
  0x983e5152, 0xa831c66d, 0xb00327c8, 0xbf597fc7, 0xc6e00bf3, 0xd5a79147, 0x06ca6351, 0x14292967,
  0x27b70a85, 0x2e1b2138, 0x4d2c6dfc, 0x53380d13, 0x650a7354, 0x766a0abb, 0x81c2c92e, 0x92722c85,
  0xa2bfe8a1, 0xa81a664b, 0xc24b8b70, 0xc76c51a3, 0xd192e819, 0xd6990624, 0xf40e3585, 0x106aa070,
  0x19a4c116, 0x1e376c08, 0x2748774c, 0x34b0bcb5, 0x391c0cb3, 0x4ed8aa4a, 0x5b9cca4f, 0x682e6ff3,
  0x748f82ee, 0x78a5636f, 0x84c87814, 0x8cc70208, 0x90befffa, 0xa4506ceb, 0xbef9a3f7, 0xc67178f2]
def kW (t : Nat) : Wd := BitVec.ofNat 32 (kN[t]?.getD 0)

/-- The words of a schedule over the sixteen words of a block. -/
def sw (m : Nat → Wd) (t : Nat) : Wd :=
  if _h : t < 16 then m t else sg1 (sw m (t - 2)) + sw m (t - 7) + sg0 (sw m (t - 15)) + sw m (t - 16)
theorem sw_lo (m : Nat → Wd) (t : Nat) (h : t < 16) : sw m t = m t := by rw [sw, dif_pos h]
theorem sw_hi (m : Nat → Wd) (t : Nat) (h : 16 ≤ t) : sw m t = sg1 (sw m (t - 2)) + sw m (t - 7) + sg0 (sw m (t - 15)) + sw m (t - 16) := by
  rw [sw, dif_neg (by omega)]
theorem sw_ring (m : Nat → Wd) (t : Nat) (h : 16 ≤ t) : sw m (t - 16) + (sg0 (sw m (t - 15)) + sg1 (sw m (t - 2)) + sw m (t - 7)) = sw m t := by
  rw [sw_hi m t h]
  ac_rfl

/-- The variables after t rounds. -/
def rds (h : Vs) (m : Nat → Wd) : Nat → Vs
  | 0 => h
  | t + 1 => rnd (rds h m t) (kW t) (sw m t)
def proc (h : Vs) (m : Nat → Wd) : Vs := addV h (rds h m 64)

/-- A byte as a word. -/
def bw (c : UInt8) : Wd := BitVec.ofNat 32 c.toNat
/-- The word of four bytes of a list. -/
def be (l : List UInt8) (t : Nat) : Wd :=
  (((bw (l[4 * t]?.getD 0) <<< 8 ||| bw (l[4 * t + 1]?.getD 0)) <<< 8 ||| bw (l[4 * t + 2]?.getD 0)) <<< 8) ||| bw (l[4 * t + 3]?.getD 0)
/-- The state after all complete blocks of a list. -/
def blks (h : Vs) : Nat → List UInt8 → Vs
  | 0, _ => h
  | n + 1, l => blks (proc h (be l)) n (l.drop 64)
def shaF (l : List UInt8) : Vs := blks iniV (l.length / 64) l

/-- Eight bytes of a number, the highest first. -/
def be8 (n : Nat) : List UInt8 := (List.range 8).map fun k => UInt8.ofNat (n / 2 ^ (56 - 8 * k))
def padZ (n : Nat) : Nat := (119 - n % 64) % 64
/-- What is added to n bytes. -/
def padL (n : Nat) : List UInt8 := 128 :: (List.replicate (padZ n) 0 ++ be8 (8 * n))

def wB (x : Wd) (k : Nat) : UInt8 := UInt8.ofNat (x >>> (24 - 8 * k)).toNat
def Vs.words (v : Vs) : List Wd := [v.a, v.b, v.c, v.d, v.e, v.f, v.g, v.i]
/-- The bytes of a state. -/
def Vs.bytes (v : Vs) : List UInt8 := v.words.flatMap fun x => [wB x 0, wB x 1, wB x 2, wB x 3]
/-- The digest of bytes. -/
def sha (l : List UInt8) : List UInt8 := (shaF (l ++ padL l.length)).bytes
theorem bytes_length (v : Vs) : v.bytes.length = 32 := rfl
theorem sha_length (l : List UInt8) : (sha l).length = 32 := rfl

theorem blks_add (n k : Nat) : ∀ (h : Vs) (l : List UInt8), blks h (n + k) l = blks (blks h n l) k (l.drop (64 * n)) := by
  induction n with
  | zero => intro h l; simp [blks]
  | succ n ih =>
    intro h l
    rw [show n + 1 + k = (n + k) + 1 by omega]
    simp only [blks]
    rw [ih, List.drop_drop, show 64 * (n + 1) = 64 + 64 * n by omega]
theorem be_take (l m : List UInt8) (t : Nat) (ht : t < 16) (h : l.take 64 = m.take 64) : be l t = be m t := by
  have hg : ∀ j, j < 64 → l[j]? = m[j]? := by
    intro j hj
    have := congrArg (fun x => x[j]?) h
    simpa [List.getElem?_take, hj] using this
  unfold be
  rw [hg _ (by omega), hg _ (by omega), hg _ (by omega), hg _ (by omega)]
theorem sw_congr (m n : Nat → Wd) (h : ∀ t, t < 16 → m t = n t) (t : Nat) : sw m t = sw n t := by
  induction t using Nat.strongRecOn with
  | ind t ih =>
    by_cases ht : t < 16
    · rw [sw_lo _ _ ht, sw_lo _ _ ht, h t ht]
    · rw [sw_hi m t (by omega), sw_hi n t (by omega), ih (t - 2) (by omega), ih (t - 7) (by omega), ih (t - 15) (by omega), ih (t - 16) (by omega)]
theorem rds_congr (h : Vs) (m n : Nat → Wd) (e : ∀ t, t < 16 → m t = n t) (t : Nat) : rds h m t = rds h n t := by
  induction t with
  | zero => rfl
  | succ t ih => rw [rds, rds, ih, sw_congr m n e]
theorem proc_congr (h : Vs) (m n : Nat → Wd) (e : ∀ t, t < 16 → m t = n t) : proc h m = proc h n := by
  unfold proc
  rw [rds_congr h m n e]
theorem blks_take (n : Nat) : ∀ (h : Vs) (l m : List UInt8), l.take (64 * n) = m.take (64 * n) → blks h n l = blks h n m := by
  induction n with
  | zero => intro h l m _; rfl
  | succ n ih =>
    intro h l m e
    have e1 : l.take 64 = m.take 64 := by
      have := congrArg (List.take 64) e
      rwa [List.take_take, List.take_take, Nat.min_eq_left (by omega)] at this
    have e2 : (l.drop 64).take (64 * n) = (m.drop 64).take (64 * n) := by
      have := congrArg (List.drop 64) e
      rwa [List.drop_take, List.drop_take, show 64 * (n + 1) - 64 = 64 * n by omega] at this
    simp only [blks]
    rw [proc_congr h _ _ (fun t ht => be_take l m t ht e1)]
    exact ih _ _ _ e2
/-- One block more. -/
theorem shaF_block (l : List UInt8) (n : Nat) (h : l.length = 64 * (n + 1)) : shaF l = proc (shaF (l.take (64 * n))) (be (l.drop (64 * n))) := by
  unfold shaF
  rw [h, show 64 * (n + 1) / 64 = n + 1 by omega, blks_add n 1]
  have : (l.take (64 * n)).length = 64 * n := by rw [List.length_take]; omega
  rw [this, show 64 * n / 64 = n by omega, blks_take n iniV l (l.take (64 * n)) (by rw [List.take_take, Nat.min_self])]
  rfl
/-- The bytes that fill no block do not matter. -/
theorem shaF_rest (l m : List UInt8) (h : (l.length + m.length) / 64 = l.length / 64) : shaF (l ++ m) = shaF l := by
  unfold shaF
  rw [List.length_append, h]
  apply blks_take
  rw [List.take_append_of_le_length (by omega)]

end Go.Proofs.YtecalodcbkljoaaGreatDoor
