/- The sum's register as 64 bits: one step of four bits, one byte, bytes, texts. Plain definitions, no program in sight. -/
namespace Go.Proofs.YtcbbdkennmopdaaGreatDoor.Crc
/-- What four bits that fall out add. -/
def nibs : List (BitVec 64) := [0x0000000000000000#64, 0x7d9ba13851336649#64, 0xfb374270a266cc92#64, 0x86ace348f355aadb#64, 0x64b62bcaebc387a1#64, 0x192d8af2baf0e1e8#64, 0x9f8169ba49a54b33#64, 0xe21ac88218962d7a#64, 0xc96c5795d7870f42#64, 0xb4f7f6ad86b4690b#64, 0x325b15e575e1c3d0#64, 0x4fc0b4dd24d2a599#64, 0xadda7c5f3c4488e3#64, 0xd041dd676d77eeaa#64, 0x56ed3e2f9e224471#64, 0x2b769f17cf112238#64]
def nib (a : BitVec 64) : BitVec 64 := nibs.getD a.toNat 0#64
def low (r : BitVec 64) : BitVec 64 := r &&& 15#64
def high (r : BitVec 64) : BitVec 64 := r >>> 4
def wide (b : UInt8) : BitVec 64 := b.toBitVec.setWidth 64
def half (r : BitVec 64) : BitVec 64 := high r ^^^ nib (low r)
def byte (r : BitVec 64) (b : UInt8) : BitVec 64 := half (half (r ^^^ wide b))
/-- A register as the number that a slot holds. -/
def bv (a : BitVec 64) : Int := a.toNat
theorem bv_range (a : BitVec 64) : 0 ≤ bv a ∧ bv a < 18446744073709551616 := by have := a.isLt; unfold bv; omega
def bytes (r : BitVec 64) (l : List UInt8) : BitVec 64 := l.foldl byte r
def texts (r : BitVec 64) (l : List ByteArray) : BitVec 64 := l.foldl (fun r s => bytes r s.data.toList) r
/-- The sum of texts. -/
def sum (l : List ByteArray) : BitVec 64 := ~~~ texts (~~~ 0#64) l
theorem bytes_snoc (r : BitVec 64) (l : List UInt8) (b : UInt8) : bytes r (l ++ [b]) = byte (bytes r l) b := by simp [bytes]
theorem texts_snoc (r : BitVec 64) (l : List ByteArray) (s : ByteArray) : texts r (l ++ [s]) = bytes (texts r l) s.data.toList := by simp [texts]
/-- Texts, one behind the other. -/
def joined (l : List ByteArray) : List UInt8 := l.flatMap fun s => s.data.toList
end Go.Proofs.YtcbbdkennmopdaaGreatDoor.Crc
