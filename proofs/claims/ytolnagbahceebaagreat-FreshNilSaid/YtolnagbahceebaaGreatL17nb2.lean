/- Texts of the proof: Tab, Dg1, Dg2, Dg3, Dg4, Dg5, Dg6, Dg7, Eng28, Wi2, Eng29, Sl3, Wr2, Pc1, Sl4. -/
import Derived.Test.YtolnagbahceebaaGreatL17nb1
import Derived.Test.YtolnagbahceebaaGreatProg
import Derived.Lib.ConvBytes
import Derived.Lib.RowBridge
import Derived.Test.YtolnagbahceebaaGreatShelf
import Derived.Shelf.SortM.Plain
import Derived.Shelf.SortM.SortNone
import Derived.Shelf.SlicesG.CompactI
namespace Go.Proofs.YtolnagbahceebaaGreat
open Go.RowKit Go.Shelf
def rowsTab : List (Option TRow) := [
  none,
  some { k := .fn, size := 1, bytes := 8, zero := .nilFunc },
  some { k := .int .i64, size := 1, bytes := 8, zero := .int .i64 0 },
  some { k := .int .i64, size := 1, bytes := 8, zero := .int .i64 0 },
  some { k := .bool, size := 1, bytes := 1, zero := .bool false },
  some { k := .int .u8, size := 1, bytes := 1, zero := .int .u8 0 },
  some { k := .int .u8, size := 1, bytes := 1, zero := .int .u8 0 },
  none,
  none,
  some { k := .string, size := 1, bytes := 16, zero := .string ByteArray.empty },
  some { k := .string, size := 1, bytes := 16, zero := .string ByteArray.empty },
  some { k := .string, size := 1, bytes := 16, zero := .string ByteArray.empty },
  some { k := .int .u64, size := 1, bytes := 8, zero := .int .u64 0 },
  none,
  none,
  some { k := .ptr 438, size := 1, bytes := 8, zero := .pointer none },
  some { k := .ptr 441, size := 1, bytes := 8, zero := .pointer none },
  some { k := .ptr 449, size := 1, bytes := 8, zero := .pointer none },
  none,
  none,
  none,
  some { k := .int .i32, size := 1, bytes := 4, zero := .int .i32 0 },
  some { k := .slice 5, size := 1, bytes := 24, zero := .slice none 0 0 },
  some { k := .ptr 166, size := 1, bytes := 8, zero := .pointer none },
  some { k := .int .i64, size := 1, bytes := 8, zero := .int .i64 0 },
  none,
  some { k := .fn, size := 1, bytes := 8, zero := .nilFunc },
  some { k := .arr 8 5, size := 8, bytes := 8, zero := .agg #[.int .u8 0, .int .u8 0, .int .u8 0, .int .u8 0, .int .u8 0, .int .u8 0, .int .u8 0, .int .u8 0] },
  none,
  some { k := .fn, size := 1, bytes := 8, zero := .nilFunc },
  none,
  some { k := .fn, size := 1, bytes := 8, zero := .nilFunc },
  some { k := .fn, size := 1, bytes := 8, zero := .nilFunc },
  none,
  none,
  some { k := .ptr 191, size := 1, bytes := 8, zero := .pointer none },
  none,
  none,
  none,
  some { k := .slice 3, size := 1, bytes := 24, zero := .slice none 0 0 },
  some { k := .arr 4 39, size := 4, bytes := 96, zero := .agg #[.slice none 0 0, .slice none 0 0, .slice none 0 0, .slice none 0 0] },
  some { k := .slice 60, size := 1, bytes := 24, zero := .slice none 0 0 },
  some { k := .ptr 48, size := 1, bytes := 8, zero := .pointer none },
  none,
  none,
  none,
  some { k := .ptr 51, size := 1, bytes := 8, zero := .pointer none },
  some { k := .strct [(40, 0, 4)], size := 4, bytes := 96, zero := .agg #[.slice none 0 0, .slice none 0 0, .slice none 0 0, .slice none 0 0] },
  some { k := .strct [(40, 0, 4)], size := 4, bytes := 96, zero := .agg #[.slice none 0 0, .slice none 0 0, .slice none 0 0, .slice none 0 0] },
  some { k := .slice 184, size := 1, bytes := 24, zero := .slice none 0 0 },
  some { k := .strct [(48, 0, 4), (49, 4, 1), (3, 5, 1), (4, 6, 1)], size := 7, bytes := 136, zero := .agg #[.slice none 0 0, .slice none 0 0, .slice none 0 0, .slice none 0 0, .slice none 0 0, .int .i64 0, .bool false] },
  some { k := .strct [(48, 0, 4), (49, 4, 1), (3, 5, 1), (4, 6, 1)], size := 7, bytes := 136, zero := .agg #[.slice none 0 0, .slice none 0 0, .slice none 0 0, .slice none 0 0, .slice none 0 0, .int .i64 0, .bool false] },
  some { k := .int .u32, size := 1, bytes := 4, zero := .int .u32 0 },
  some { k := .arr 64 52, size := 64, bytes := 256, zero := .agg #[.int .u32 0, .int .u32 0, .int .u32 0, .int .u32 0, .int .u32 0, .int .u32 0, .int .u32 0, .int .u32 0, .int .u32 0, .int .u32 0, .int .u32 0, .int .u32 0, .int .u32 0, .int .u32 0, .int .u32 0, .int .u32 0, .int .u32 0, .int .u32 0, .int .u32 0, .int .u32 0, .int .u32 0, .int .u32 0, .int .u32 0, .int .u32 0, .int .u32 0, .int .u32 0, .int .u32 0, .int .u32 0, .int .u32 0, .int .u32 0, .int .u32 0, .int .u32 0, .int .u32 0, .int .u32 0, .int .u32 0, .int .u32 0, .int .u32 0, .int .u32 0, .int .u32 0, .int .u32 0, .int .u32 0, .int .u32 0, .int .u32 0, .int .u32 0, .int .u32 0, .int .u32 0, .int .u32 0, .int .u32 0, .int .u32 0, .int .u32 0, .int .u32 0, .int .u32 0, .int .u32 0, .int .u32 0, .int .u32 0, .int .u32 0, .int .u32 0, .int .u32 0, .int .u32 0, .int .u32 0, .int .u32 0, .int .u32 0, .int .u32 0, .int .u32 0] },
  some { k := .arr 8 52, size := 8, bytes := 32, zero := .agg #[.int .u32 0, .int .u32 0, .int .u32 0, .int .u32 0, .int .u32 0, .int .u32 0, .int .u32 0, .int .u32 0] },
  some { k := .strct [(53, 0, 64), (54, 64, 8)], size := 72, bytes := 288, zero := .agg #[.int .u32 0, .int .u32 0, .int .u32 0, .int .u32 0, .int .u32 0, .int .u32 0, .int .u32 0, .int .u32 0, .int .u32 0, .int .u32 0, .int .u32 0, .int .u32 0, .int .u32 0, .int .u32 0, .int .u32 0, .int .u32 0, .int .u32 0, .int .u32 0, .int .u32 0, .int .u32 0, .int .u32 0, .int .u32 0, .int .u32 0, .int .u32 0, .int .u32 0, .int .u32 0, .int .u32 0, .int .u32 0, .int .u32 0, .int .u32 0, .int .u32 0, .int .u32 0, .int .u32 0, .int .u32 0, .int .u32 0, .int .u32 0, .int .u32 0, .int .u32 0, .int .u32 0, .int .u32 0, .int .u32 0, .int .u32 0, .int .u32 0, .int .u32 0, .int .u32 0, .int .u32 0, .int .u32 0, .int .u32 0, .int .u32 0, .int .u32 0, .int .u32 0, .int .u32 0, .int .u32 0, .int .u32 0, .int .u32 0, .int .u32 0, .int .u32 0, .int .u32 0, .int .u32 0, .int .u32 0, .int .u32 0, .int .u32 0, .int .u32 0, .int .u32 0, .int .u32 0, .int .u32 0, .int .u32 0, .int .u32 0, .int .u32 0, .int .u32 0, .int .u32 0, .int .u32 0] },
  some { k := .strct [(53, 0, 64), (54, 64, 8)], size := 72, bytes := 288, zero := .agg #[.int .u32 0, .int .u32 0, .int .u32 0, .int .u32 0, .int .u32 0, .int .u32 0, .int .u32 0, .int .u32 0, .int .u32 0, .int .u32 0, .int .u32 0, .int .u32 0, .int .u32 0, .int .u32 0, .int .u32 0, .int .u32 0, .int .u32 0, .int .u32 0, .int .u32 0, .int .u32 0, .int .u32 0, .int .u32 0, .int .u32 0, .int .u32 0, .int .u32 0, .int .u32 0, .int .u32 0, .int .u32 0, .int .u32 0, .int .u32 0, .int .u32 0, .int .u32 0, .int .u32 0, .int .u32 0, .int .u32 0, .int .u32 0, .int .u32 0, .int .u32 0, .int .u32 0, .int .u32 0, .int .u32 0, .int .u32 0, .int .u32 0, .int .u32 0, .int .u32 0, .int .u32 0, .int .u32 0, .int .u32 0, .int .u32 0, .int .u32 0, .int .u32 0, .int .u32 0, .int .u32 0, .int .u32 0, .int .u32 0, .int .u32 0, .int .u32 0, .int .u32 0, .int .u32 0, .int .u32 0, .int .u32 0, .int .u32 0, .int .u32 0, .int .u32 0, .int .u32 0, .int .u32 0, .int .u32 0, .int .u32 0, .int .u32 0, .int .u32 0, .int .u32 0, .int .u32 0] },
  none,
  some { k := .int .u64, size := 1, bytes := 8, zero := .int .u64 0 },
  some { k := .strct [(3, 0, 1), (3, 1, 1), (3, 2, 1), (3, 3, 1), (27, 4, 8), (22, 12, 1)], size := 13, bytes := 64, zero := .agg #[.int .i64 0, .int .i64 0, .int .i64 0, .int .i64 0, .int .u8 0, .int .u8 0, .int .u8 0, .int .u8 0, .int .u8 0, .int .u8 0, .int .u8 0, .int .u8 0, .slice none 0 0] },
  some { k := .strct [(3, 0, 1), (3, 1, 1), (3, 2, 1), (3, 3, 1), (27, 4, 8), (22, 12, 1)], size := 13, bytes := 64, zero := .agg #[.int .i64 0, .int .i64 0, .int .i64 0, .int .i64 0, .int .u8 0, .int .u8 0, .int .u8 0, .int .u8 0, .int .u8 0, .int .u8 0, .int .u8 0, .int .u8 0, .slice none 0 0] },
  none,
  none,
  none,
  none,
  none,
  none,
  some { k := .arr 4 3, size := 4, bytes := 32, zero := .agg #[.int .i64 0, .int .i64 0, .int .i64 0, .int .i64 0] },
  some { k := .arr 4 3, size := 4, bytes := 32, zero := .agg #[.int .i64 0, .int .i64 0, .int .i64 0, .int .i64 0] },
  some { k := .strct [(68, 0, 4), (27, 4, 8)], size := 12, bytes := 40, zero := .agg #[.int .i64 0, .int .i64 0, .int .i64 0, .int .i64 0, .int .u8 0, .int .u8 0, .int .u8 0, .int .u8 0, .int .u8 0, .int .u8 0, .int .u8 0, .int .u8 0] },
  some { k := .strct [(68, 0, 4), (27, 4, 8)], size := 12, bytes := 40, zero := .agg #[.int .i64 0, .int .i64 0, .int .i64 0, .int .i64 0, .int .u8 0, .int .u8 0, .int .u8 0, .int .u8 0, .int .u8 0, .int .u8 0, .int .u8 0, .int .u8 0] },
  none,
  none,
  some { k := .ptr 205, size := 1, bytes := 8, zero := .pointer none },
  none,
  some { k := .strct [(68, 0, 4), (40, 4, 4)], size := 8, bytes := 128, zero := .agg #[.int .i64 0, .int .i64 0, .int .i64 0, .int .i64 0, .slice none 0 0, .slice none 0 0, .slice none 0 0, .slice none 0 0] },
  some { k := .strct [(68, 0, 4), (40, 4, 4)], size := 8, bytes := 128, zero := .agg #[.int .i64 0, .int .i64 0, .int .i64 0, .int .i64 0, .slice none 0 0, .slice none 0 0, .slice none 0 0, .slice none 0 0] },
  none,
  none,
  none,
  none,
  none,
  none,
  none,
  none,
  none,
  some { k := .slice 22, size := 1, bytes := 24, zero := .slice none 0 0 },
  some { k := .slice 39, size := 1, bytes := 24, zero := .slice none 0 0 },
  none,
  some { k := .fn, size := 1, bytes := 8, zero := .nilFunc },
  none,
  none,
  some { k := .ptr 217, size := 1, bytes := 8, zero := .pointer none },
  none,
  some { k := .ptr 232, size := 1, bytes := 8, zero := .pointer none },
  some { k := .arr 3 94, size := 3, bytes := 24, zero := .agg #[.pointer none, .pointer none, .pointer none] },
  some { k := .strct [(3, 0, 1), (3, 1, 1), (3, 2, 1), (3, 3, 1)], size := 4, bytes := 32, zero := .agg #[.int .i64 0, .int .i64 0, .int .i64 0, .int .i64 0] },
  some { k := .strct [(3, 0, 1), (3, 1, 1), (3, 2, 1), (3, 3, 1)], size := 4, bytes := 32, zero := .agg #[.int .i64 0, .int .i64 0, .int .i64 0, .int .i64 0] },
  some { k := .arr 32 5, size := 32, bytes := 32, zero := .agg #[.int .u8 0, .int .u8 0, .int .u8 0, .int .u8 0, .int .u8 0, .int .u8 0, .int .u8 0, .int .u8 0, .int .u8 0, .int .u8 0, .int .u8 0, .int .u8 0, .int .u8 0, .int .u8 0, .int .u8 0, .int .u8 0, .int .u8 0, .int .u8 0, .int .u8 0, .int .u8 0, .int .u8 0, .int .u8 0, .int .u8 0, .int .u8 0, .int .u8 0, .int .u8 0, .int .u8 0, .int .u8 0, .int .u8 0, .int .u8 0, .int .u8 0, .int .u8 0] },
  some { k := .strct [(97, 0, 4), (98, 4, 32)], size := 36, bytes := 64, zero := .agg #[.int .i64 0, .int .i64 0, .int .i64 0, .int .i64 0, .int .u8 0, .int .u8 0, .int .u8 0, .int .u8 0, .int .u8 0, .int .u8 0, .int .u8 0, .int .u8 0, .int .u8 0, .int .u8 0, .int .u8 0, .int .u8 0, .int .u8 0, .int .u8 0, .int .u8 0, .int .u8 0, .int .u8 0, .int .u8 0, .int .u8 0, .int .u8 0, .int .u8 0, .int .u8 0, .int .u8 0, .int .u8 0, .int .u8 0, .int .u8 0, .int .u8 0, .int .u8 0, .int .u8 0, .int .u8 0, .int .u8 0, .int .u8 0] },
  some { k := .strct [(97, 0, 4), (98, 4, 32)], size := 36, bytes := 64, zero := .agg #[.int .i64 0, .int .i64 0, .int .i64 0, .int .i64 0, .int .u8 0, .int .u8 0, .int .u8 0, .int .u8 0, .int .u8 0, .int .u8 0, .int .u8 0, .int .u8 0, .int .u8 0, .int .u8 0, .int .u8 0, .int .u8 0, .int .u8 0, .int .u8 0, .int .u8 0, .int .u8 0, .int .u8 0, .int .u8 0, .int .u8 0, .int .u8 0, .int .u8 0, .int .u8 0, .int .u8 0, .int .u8 0, .int .u8 0, .int .u8 0, .int .u8 0, .int .u8 0, .int .u8 0, .int .u8 0, .int .u8 0, .int .u8 0] },
  none,
  none,
  none,
  none,
  some { k := .ptr 236, size := 1, bytes := 8, zero := .pointer none },
  none,
  none,
  none,
  none,
  some { k := .ptr 243, size := 1, bytes := 8, zero := .pointer none },
  none,
  none,
  none,
  none,
  some { k := .strct [(3, 0, 1), (3, 1, 1), (22, 2, 1)], size := 3, bytes := 40, zero := .agg #[.int .i64 0, .int .i64 0, .slice none 0 0] },
  some { k := .strct [(3, 0, 1), (3, 1, 1), (22, 2, 1)], size := 3, bytes := 40, zero := .agg #[.int .i64 0, .int .i64 0, .slice none 0 0] },
  some { k := .strct [(3, 0, 1), (3, 1, 1)], size := 2, bytes := 16, zero := .agg #[.int .i64 0, .int .i64 0] },
  some { k := .strct [(3, 0, 1), (3, 1, 1)], size := 2, bytes := 16, zero := .agg #[.int .i64 0, .int .i64 0] },
  some { k := .strct [(3, 0, 1), (97, 1, 4), (3, 5, 1), (118, 6, 2), (22, 8, 1), (98, 9, 32)], size := 41, bytes := 120, zero := .agg #[.int .i64 0, .int .i64 0, .int .i64 0, .int .i64 0, .int .i64 0, .int .i64 0, .int .i64 0, .int .i64 0, .slice none 0 0, .int .u8 0, .int .u8 0, .int .u8 0, .int .u8 0, .int .u8 0, .int .u8 0, .int .u8 0, .int .u8 0, .int .u8 0, .int .u8 0, .int .u8 0, .int .u8 0, .int .u8 0, .int .u8 0, .int .u8 0, .int .u8 0, .int .u8 0, .int .u8 0, .int .u8 0, .int .u8 0, .int .u8 0, .int .u8 0, .int .u8 0, .int .u8 0, .int .u8 0, .int .u8 0, .int .u8 0, .int .u8 0, .int .u8 0, .int .u8 0, .int .u8 0, .int .u8 0] },
  none,
  none,
  none,
  some { k := .ptr 326, size := 1, bytes := 8, zero := .pointer none },
  none,
  none,
  none,
  some { k := .strct [(3, 0, 1), (3, 1, 1), (3, 2, 1), (3, 3, 1)], size := 4, bytes := 32, zero := .agg #[.int .i64 0, .int .i64 0, .int .i64 0, .int .i64 0] },
  none,
  none,
  none,
  none,
  some { k := .ptr 275, size := 1, bytes := 8, zero := .pointer none },
  none,
  none,
  none,
  none,
  none,
  none,
  none,
  some { k := .strct [(3, 0, 1), (3, 1, 1)], size := 2, bytes := 16, zero := .agg #[.int .i64 0, .int .i64 0] },
  some { k := .strct [(3, 0, 1), (127, 1, 4), (3, 5, 1), (140, 6, 2), (22, 8, 1), (98, 9, 32)], size := 41, bytes := 120, zero := .agg #[.int .i64 0, .int .i64 0, .int .i64 0, .int .i64 0, .int .i64 0, .int .i64 0, .int .i64 0, .int .i64 0, .slice none 0 0, .int .u8 0, .int .u8 0, .int .u8 0, .int .u8 0, .int .u8 0, .int .u8 0, .int .u8 0, .int .u8 0, .int .u8 0, .int .u8 0, .int .u8 0, .int .u8 0, .int .u8 0, .int .u8 0, .int .u8 0, .int .u8 0, .int .u8 0, .int .u8 0, .int .u8 0, .int .u8 0, .int .u8 0, .int .u8 0, .int .u8 0, .int .u8 0, .int .u8 0, .int .u8 0, .int .u8 0, .int .u8 0, .int .u8 0, .int .u8 0, .int .u8 0, .int .u8 0] },
  some { k := .strct [(3, 0, 1), (127, 1, 4), (3, 5, 1), (140, 6, 2), (22, 8, 1), (98, 9, 32)], size := 41, bytes := 120, zero := .agg #[.int .i64 0, .int .i64 0, .int .i64 0, .int .i64 0, .int .i64 0, .int .i64 0, .int .i64 0, .int .i64 0, .slice none 0 0, .int .u8 0, .int .u8 0, .int .u8 0, .int .u8 0, .int .u8 0, .int .u8 0, .int .u8 0, .int .u8 0, .int .u8 0, .int .u8 0, .int .u8 0, .int .u8 0, .int .u8 0, .int .u8 0, .int .u8 0, .int .u8 0, .int .u8 0, .int .u8 0, .int .u8 0, .int .u8 0, .int .u8 0, .int .u8 0, .int .u8 0, .int .u8 0, .int .u8 0, .int .u8 0, .int .u8 0, .int .u8 0, .int .u8 0, .int .u8 0, .int .u8 0, .int .u8 0] },
  some { k := .strct [(3, 0, 1), (3, 1, 1), (3, 2, 1), (142, 3, 41)], size := 44, bytes := 144, zero := .agg #[.int .i64 0, .int .i64 0, .int .i64 0, .int .i64 0, .int .i64 0, .int .i64 0, .int .i64 0, .int .i64 0, .int .i64 0, .int .i64 0, .int .i64 0, .slice none 0 0, .int .u8 0, .int .u8 0, .int .u8 0, .int .u8 0, .int .u8 0, .int .u8 0, .int .u8 0, .int .u8 0, .int .u8 0, .int .u8 0, .int .u8 0, .int .u8 0, .int .u8 0, .int .u8 0, .int .u8 0, .int .u8 0, .int .u8 0, .int .u8 0, .int .u8 0, .int .u8 0, .int .u8 0, .int .u8 0, .int .u8 0, .int .u8 0, .int .u8 0, .int .u8 0, .int .u8 0, .int .u8 0, .int .u8 0, .int .u8 0, .int .u8 0, .int .u8 0] },
  none,
  none,
  none,
  none,
  none,
  none,
  none,
  none,
  none,
  none,
  none,
  none,
  none,
  some { k := .slice 97, size := 1, bytes := 24, zero := .slice none 0 0 },
  none,
  none,
  none,
  some { k := .slice 164, size := 1, bytes := 24, zero := .slice none 0 0 },
  none,
  some { k := .strct [(3, 0, 1), (3, 1, 1), (27, 2, 8)], size := 10, bytes := 24, zero := .agg #[.int .i64 0, .int .i64 0, .int .u8 0, .int .u8 0, .int .u8 0, .int .u8 0, .int .u8 0, .int .u8 0, .int .u8 0, .int .u8 0] },
  some { k := .strct [(3, 0, 1), (3, 1, 1), (27, 2, 8)], size := 10, bytes := 24, zero := .agg #[.int .i64 0, .int .i64 0, .int .u8 0, .int .u8 0, .int .u8 0, .int .u8 0, .int .u8 0, .int .u8 0, .int .u8 0, .int .u8 0] },
  some { k := .strct [(35, 0, 1), (161, 1, 1), (3, 2, 1), (4, 3, 1)], size := 4, bytes := 48, zero := .agg #[.pointer none, .slice none 0 0, .int .i64 0, .bool false] },
  some { k := .strct [(35, 0, 1), (161, 1, 1), (3, 2, 1), (4, 3, 1)], size := 4, bytes := 48, zero := .agg #[.pointer none, .slice none 0 0, .int .i64 0, .bool false] },
  some { k := .fn, size := 1, bytes := 8, zero := .nilFunc },
  none,
  none,
  none,
  none,
  none,
  none,
  none,
  none,
  none,
  none,
  none,
  none,
  none,
  none,
  none,
  some { k := .strct [(3, 0, 1), (3, 1, 1), (27, 2, 8)], size := 10, bytes := 24, zero := .agg #[.int .i64 0, .int .i64 0, .int .u8 0, .int .u8 0, .int .u8 0, .int .u8 0, .int .u8 0, .int .u8 0, .int .u8 0, .int .u8 0] },
  some { k := .strct [(3, 0, 1), (3, 1, 1), (27, 2, 8)], size := 10, bytes := 24, zero := .agg #[.int .i64 0, .int .i64 0, .int .u8 0, .int .u8 0, .int .u8 0, .int .u8 0, .int .u8 0, .int .u8 0, .int .u8 0, .int .u8 0] },
  none,
  some { k := .strct [(3, 0, 1), (3, 1, 1), (22, 2, 1)], size := 3, bytes := 40, zero := .agg #[.int .i64 0, .int .i64 0, .slice none 0 0] },
  some { k := .strct [(3, 0, 1), (3, 1, 1), (22, 2, 1)], size := 3, bytes := 40, zero := .agg #[.int .i64 0, .int .i64 0, .slice none 0 0] },
  none,
  none,
  some { k := .strct [(40, 0, 4)], size := 4, bytes := 96, zero := .agg #[.slice none 0 0, .slice none 0 0, .slice none 0 0, .slice none 0 0] },
  some { k := .strct [(40, 0, 4)], size := 4, bytes := 96, zero := .agg #[.slice none 0 0, .slice none 0 0, .slice none 0 0, .slice none 0 0] },
  none,
  none,
  none,
  none,
  none,
  none,
  none,
  none,
  none,
  none,
  some { k := .strct [(22, 0, 1), (24, 1, 1)], size := 2, bytes := 32, zero := .agg #[.slice none 0 0, .int .i64 0] },
  some { k := .strct [(22, 0, 1), (24, 1, 1)], size := 2, bytes := 32, zero := .agg #[.slice none 0 0, .int .i64 0] },
  some { k := .strct [(203, 0, 2)], size := 2, bytes := 32, zero := .agg #[.slice none 0 0, .int .i64 0] },
  some { k := .strct [(203, 0, 2)], size := 2, bytes := 32, zero := .agg #[.slice none 0 0, .int .i64 0] },
  none,
  none,
  none,
  none,
  none,
  none,
  none,
  none,
  none,
  some { k := .slice 5, size := 1, bytes := 24, zero := .slice none 0 0 },
  some { k := .strct [(215, 0, 1)], size := 1, bytes := 24, zero := .agg #[.slice none 0 0] },
  some { k := .strct [(215, 0, 1)], size := 1, bytes := 24, zero := .agg #[.slice none 0 0] },
  none,
  none,
  none,
  none,
  none,
  some { k := .ptr 324, size := 1, bytes := 8, zero := .pointer none },
  none,
  none,
  none,
  none,
  some { k := .strct [(118, 0, 2), (58, 2, 1)], size := 3, bytes := 24, zero := .agg #[.int .i64 0, .int .i64 0, .int .u64 0] },
  some { k := .strct [(118, 0, 2), (58, 2, 1)], size := 3, bytes := 24, zero := .agg #[.int .i64 0, .int .i64 0, .int .u64 0] },
  some { k := .arr 4 229, size := 12, bytes := 96, zero := .agg #[.int .i64 0, .int .i64 0, .int .u64 0, .int .i64 0, .int .i64 0, .int .u64 0, .int .i64 0, .int .i64 0, .int .u64 0, .int .i64 0, .int .i64 0, .int .u64 0] },
  some { k := .strct [(223, 0, 1), (105, 1, 1), (110, 2, 1), (123, 3, 1), (230, 4, 12)], size := 16, bytes := 128, zero := .agg #[.pointer none, .pointer none, .pointer none, .pointer none, .int .i64 0, .int .i64 0, .int .u64 0, .int .i64 0, .int .i64 0, .int .u64 0, .int .i64 0, .int .i64 0, .int .u64 0, .int .i64 0, .int .i64 0, .int .u64 0] },
  some { k := .strct [(223, 0, 1), (105, 1, 1), (110, 2, 1), (123, 3, 1), (230, 4, 12)], size := 16, bytes := 128, zero := .agg #[.pointer none, .pointer none, .pointer none, .pointer none, .int .i64 0, .int .i64 0, .int .u64 0, .int .i64 0, .int .i64 0, .int .u64 0, .int .i64 0, .int .i64 0, .int .u64 0, .int .i64 0, .int .i64 0, .int .u64 0] },
  some { k := .map 97 92, size := 1, bytes := 8, zero := .map none },
  some { k := .map 3 92, size := 1, bytes := 8, zero := .map none },
  some { k := .strct [(100, 0, 36), (233, 36, 1), (234, 37, 1)], size := 38, bytes := 80, zero := .agg #[.int .i64 0, .int .i64 0, .int .i64 0, .int .i64 0, .int .u8 0, .int .u8 0, .int .u8 0, .int .u8 0, .int .u8 0, .int .u8 0, .int .u8 0, .int .u8 0, .int .u8 0, .int .u8 0, .int .u8 0, .int .u8 0, .int .u8 0, .int .u8 0, .int .u8 0, .int .u8 0, .int .u8 0, .int .u8 0, .int .u8 0, .int .u8 0, .int .u8 0, .int .u8 0, .int .u8 0, .int .u8 0, .int .u8 0, .int .u8 0, .int .u8 0, .int .u8 0, .int .u8 0, .int .u8 0, .int .u8 0, .int .u8 0, .map none, .map none] },
  some { k := .strct [(100, 0, 36), (233, 36, 1), (234, 37, 1)], size := 38, bytes := 80, zero := .agg #[.int .i64 0, .int .i64 0, .int .i64 0, .int .i64 0, .int .u8 0, .int .u8 0, .int .u8 0, .int .u8 0, .int .u8 0, .int .u8 0, .int .u8 0, .int .u8 0, .int .u8 0, .int .u8 0, .int .u8 0, .int .u8 0, .int .u8 0, .int .u8 0, .int .u8 0, .int .u8 0, .int .u8 0, .int .u8 0, .int .u8 0, .int .u8 0, .int .u8 0, .int .u8 0, .int .u8 0, .int .u8 0, .int .u8 0, .int .u8 0, .int .u8 0, .int .u8 0, .int .u8 0, .int .u8 0, .int .u8 0, .int .u8 0, .map none, .map none] },
  none,
  none,
  none,
  some { k := .ptr 245, size := 1, bytes := 8, zero := .pointer none },
  some { k := .map 97 240, size := 1, bytes := 8, zero := .map none },
  some { k := .strct [(241, 0, 1)], size := 1, bytes := 8, zero := .agg #[.map none] },
  some { k := .strct [(241, 0, 1)], size := 1, bytes := 8, zero := .agg #[.map none] },
  some { k := .strct [(229, 0, 3), (92, 3, 1), (3, 4, 1)], size := 5, bytes := 40, zero := .agg #[.int .i64 0, .int .i64 0, .int .u64 0, .pointer none, .int .i64 0] },
  some { k := .strct [(229, 0, 3), (92, 3, 1), (3, 4, 1)], size := 5, bytes := 40, zero := .agg #[.int .i64 0, .int .i64 0, .int .u64 0, .pointer none, .int .i64 0] },
  none,
  none,
  none,
  none,
  none,
  none,
  none,
  none,
  none,
  none,
  none,
  none,
  some { k := .arr 16 3, size := 16, bytes := 128, zero := .agg #[.int .i64 0, .int .i64 0, .int .i64 0, .int .i64 0, .int .i64 0, .int .i64 0, .int .i64 0, .int .i64 0, .int .i64 0, .int .i64 0, .int .i64 0, .int .i64 0, .int .i64 0, .int .i64 0, .int .i64 0, .int .i64 0] },
  none,
  none,
  none,
  none,
  none,
  none,
  none,
  none,
  none,
  none,
  none,
  none,
  none,
  none,
  none,
  some { k := .strct [(94, 0, 1), (3, 1, 1), (3, 2, 1), (3, 3, 1), (3, 4, 1), (157, 5, 1)], size := 6, bytes := 64, zero := .agg #[.pointer none, .int .i64 0, .int .i64 0, .int .i64 0, .int .i64 0, .slice none 0 0] },
  some { k := .strct [(94, 0, 1), (3, 1, 1), (3, 2, 1), (3, 3, 1), (3, 4, 1), (157, 5, 1)], size := 6, bytes := 64, zero := .agg #[.pointer none, .int .i64 0, .int .i64 0, .int .i64 0, .int .i64 0, .slice none 0 0] },
  none,
  none,
  none,
  none,
  none,
  none,
  none,
  none,
  none,
  none,
  none,
  some { k := .strct [(22, 0, 1), (24, 1, 1)], size := 2, bytes := 32, zero := .agg #[.slice none 0 0, .int .i64 0] },
  some { k := .ptr 287, size := 1, bytes := 8, zero := .pointer none },
  none,
  none,
  none,
  none,
  some { k := .strct [(3, 0, 1), (3, 1, 1), (22, 2, 1)], size := 3, bytes := 40, zero := .agg #[.int .i64 0, .int .i64 0, .slice none 0 0] },
  none,
  none,
  some { k := .fn, size := 1, bytes := 8, zero := .nilFunc },
  some { k := .fn, size := 1, bytes := 8, zero := .nilFunc },
  none,
  none,
  none,
  none,
  none,
  none,
  some { k := .fn, size := 1, bytes := 8, zero := .nilFunc },
  some { k := .fn, size := 1, bytes := 8, zero := .nilFunc },
  none,
  some { k := .ptr 203, size := 1, bytes := 8, zero := .pointer none },
  none,
  some { k := .strct [(54, 0, 8)], size := 8, bytes := 32, zero := .agg #[.int .u32 0, .int .u32 0, .int .u32 0, .int .u32 0, .int .u32 0, .int .u32 0, .int .u32 0, .int .u32 0] },
  some { k := .strct [(54, 0, 8)], size := 8, bytes := 32, zero := .agg #[.int .u32 0, .int .u32 0, .int .u32 0, .int .u32 0, .int .u32 0, .int .u32 0, .int .u32 0, .int .u32 0] },
  some { k := .strct [(310, 0, 8), (4, 8, 1), (22, 9, 1), (3, 10, 1)], size := 11, bytes := 72, zero := .agg #[.int .u32 0, .int .u32 0, .int .u32 0, .int .u32 0, .int .u32 0, .int .u32 0, .int .u32 0, .int .u32 0, .bool false, .slice none 0 0, .int .i64 0] },
  some { k := .strct [(310, 0, 8), (4, 8, 1), (22, 9, 1), (3, 10, 1)], size := 11, bytes := 72, zero := .agg #[.int .u32 0, .int .u32 0, .int .u32 0, .int .u32 0, .int .u32 0, .int .u32 0, .int .u32 0, .int .u32 0, .bool false, .slice none 0 0, .int .i64 0] },
  some { k := .ptr 312, size := 1, bytes := 8, zero := .pointer none },
  none,
  some { k := .int .u64, size := 1, bytes := 8, zero := .int .u64 0 },
  none,
  none,
  none,
  none,
  none,
  none,
  none,
  some { k := .strct [(118, 0, 2)], size := 2, bytes := 16, zero := .agg #[.int .i64 0, .int .i64 0] },
  some { k := .strct [(118, 0, 2)], size := 2, bytes := 16, zero := .agg #[.int .i64 0, .int .i64 0] },
  some { k := .strct [(3, 0, 1), (258, 1, 16)], size := 17, bytes := 136, zero := .agg #[.int .i64 0, .int .i64 0, .int .i64 0, .int .i64 0, .int .i64 0, .int .i64 0, .int .i64 0, .int .i64 0, .int .i64 0, .int .i64 0, .int .i64 0, .int .i64 0, .int .i64 0, .int .i64 0, .int .i64 0, .int .i64 0, .int .i64 0] },
  some { k := .strct [(3, 0, 1), (258, 1, 16)], size := 17, bytes := 136, zero := .agg #[.int .i64 0, .int .i64 0, .int .i64 0, .int .i64 0, .int .i64 0, .int .i64 0, .int .i64 0, .int .i64 0, .int .i64 0, .int .i64 0, .int .i64 0, .int .i64 0, .int .i64 0, .int .i64 0, .int .i64 0, .int .i64 0, .int .i64 0] },
  none,
  some { k := .strct [(3, 0, 1), (3, 1, 1), (3, 2, 1)], size := 3, bytes := 24, zero := .agg #[.int .i64 0, .int .i64 0, .int .i64 0] },
  some { k := .strct [(3, 0, 1), (3, 1, 1), (3, 2, 1)], size := 3, bytes := 24, zero := .agg #[.int .i64 0, .int .i64 0, .int .i64 0] },
  none,
  none,
  none,
  none,
  some { k := .strct [(73, 0, 1)], size := 1, bytes := 8, zero := .agg #[.pointer none] },
  none,
  none,
  none,
  none,
  none,
  none,
  none,
  none,
  none,
  none,
  none,
  none,
  none,
  none,
  none,
  none,
  none,
  none,
  none,
  none,
  none,
  none,
  some { k := .fn, size := 1, bytes := 8, zero := .nilFunc },
  none,
  none,
  none,
  none,
  none,
  none,
  none,
  none,
  some { k := .int .i64, size := 1, bytes := 8, zero := .int .i64 0 },
  none,
  none,
  none,
  none,
  none,
  none,
  none,
  none,
  none,
  none,
  none,
  none,
  none,
  none,
  none,
  none,
  none,
  none,
  none,
  none,
  none,
  none,
  none,
  some { k := .slice 293, size := 1, bytes := 24, zero := .slice none 0 0 },
  none,
  none,
  some { k := .ptr 310, size := 1, bytes := 8, zero := .pointer none },
  some { k := .int .u64, size := 1, bytes := 8, zero := .int .u64 0 },
  none,
  none,
  none,
  some { k := .ptr 3, size := 1, bytes := 8, zero := .pointer none },
  none,
  none,
  none,
  none,
  none,
  none,
  none,
  none,
  none,
  none,
  none,
  none,
  none,
  some { k := .fn, size := 1, bytes := 8, zero := .nilFunc },
  some { k := .ptr 394, size := 1, bytes := 8, zero := .pointer none },
  none,
  none,
  none,
  none,
  none,
  none,
  none,
  none,
  none,
  none,
  none,
  none,
  none,
  none,
  none,
  none,
  none,
  none,
  none,
  none,
  none,
  none,
  none,
  none,
  none,
  none,
  none,
  none,
  some { k := .int .u8, size := 1, bytes := 1, zero := .int .u8 0 },
  some { k := .int .u8, size := 1, bytes := 1, zero := .int .u8 0 },
  some { k := .fn, size := 1, bytes := 8, zero := .nilFunc },
  some { k := .ptr 5, size := 1, bytes := 8, zero := .pointer none },
  some { k := .int .i32, size := 1, bytes := 4, zero := .int .i32 0 },
  some { k := .int .i32, size := 1, bytes := 4, zero := .int .i32 0 },
  none,
  none,
  none,
  none,
  none]
set_option maxRecDepth 100000 in
theorem rowsGood : TGoods Tryz.prog 0 rowsTab :=
  ⟨⟨⟨_, _, _, Tryz.underlying1⟩, Tryz.sizeOf1, Tryz.zeroValue1, trivial, by kernel_rfl⟩,
   ⟨Tryz.underlying2, Tryz.sizeOf2, Tryz.zeroValue2, trivial, by kernel_rfl⟩,
   ⟨Tryz.underlying3, Tryz.sizeOf3, Tryz.zeroValue3, trivial, by kernel_rfl⟩,
   ⟨Tryz.underlying4, Tryz.sizeOf4, Tryz.zeroValue4, trivial, by kernel_rfl⟩,
   ⟨Tryz.underlying5, Tryz.sizeOf5, Tryz.zeroValue5, trivial, by kernel_rfl⟩,
   ⟨Tryz.underlying6, Tryz.sizeOf6, Tryz.zeroValue6, trivial, by kernel_rfl⟩,
   ⟨Tryz.underlying9, Tryz.sizeOf9, Tryz.zeroValue9, trivial, by kernel_rfl⟩,
   ⟨Tryz.underlying10, Tryz.sizeOf10, Tryz.zeroValue10, trivial, by kernel_rfl⟩,
   ⟨Tryz.underlying11, Tryz.sizeOf11, Tryz.zeroValue11, trivial, by kernel_rfl⟩,
   ⟨Tryz.underlying12, Tryz.sizeOf12, Tryz.zeroValue12, trivial, by kernel_rfl⟩,
   ⟨Tryz.underlying15, Tryz.sizeOf15, Tryz.zeroValue15, trivial, by kernel_rfl⟩,
   ⟨Tryz.underlying16, Tryz.sizeOf16, Tryz.zeroValue16, trivial, by kernel_rfl⟩,
   ⟨Tryz.underlying17, Tryz.sizeOf17, Tryz.zeroValue17, trivial, by kernel_rfl⟩,
   ⟨Tryz.underlying21, Tryz.sizeOf21, Tryz.zeroValue21, trivial, by kernel_rfl⟩,
   ⟨Tryz.underlying22, Tryz.sizeOf22, Tryz.zeroValue22, trivial, by kernel_rfl⟩,
   ⟨Tryz.underlying23, Tryz.sizeOf23, Tryz.zeroValue23, trivial, by kernel_rfl⟩,
   ⟨Tryz.underlying24, Tryz.sizeOf24, Tryz.zeroValue24, trivial, by kernel_rfl⟩,
   ⟨⟨_, _, _, Tryz.underlying26⟩, Tryz.sizeOf26, Tryz.zeroValue26, trivial, by kernel_rfl⟩,
   ⟨Tryz.underlying27, Tryz.sizeOf27, Tryz.zeroValue27, trivial, by kernel_rfl⟩,
   ⟨⟨_, _, _, Tryz.underlying29⟩, Tryz.sizeOf29, Tryz.zeroValue29, trivial, by kernel_rfl⟩,
   ⟨⟨_, _, _, Tryz.underlying31⟩, Tryz.sizeOf31, Tryz.zeroValue31, trivial, by kernel_rfl⟩,
   ⟨⟨_, _, _, Tryz.underlying32⟩, Tryz.sizeOf32, Tryz.zeroValue32, trivial, by kernel_rfl⟩,
   ⟨Tryz.underlying35, Tryz.sizeOf35, Tryz.zeroValue35, trivial, by kernel_rfl⟩,
   ⟨Tryz.underlying39, Tryz.sizeOf39, Tryz.zeroValue39, trivial, by kernel_rfl⟩,
   ⟨Tryz.underlying40, Tryz.sizeOf40, Tryz.zeroValue40, trivial, by kernel_rfl⟩,
   ⟨Tryz.underlying41, Tryz.sizeOf41, Tryz.zeroValue41, trivial, by kernel_rfl⟩,
   ⟨Tryz.underlying42, Tryz.sizeOf42, Tryz.zeroValue42, trivial, by kernel_rfl⟩,
   ⟨Tryz.underlying46, Tryz.sizeOf46, Tryz.zeroValue46, trivial, by kernel_rfl⟩,
   ⟨⟨_, Tryz.underlying47, rfl, rfl, Tryz.sizeOf40, rfl, trivial⟩, Tryz.sizeOf47, Tryz.zeroValue47, (by show Tryz.prog.stoodInHeld 47 = false; kernel_rfl), by kernel_rfl⟩,
   ⟨⟨_, Tryz.underlying48, rfl, rfl, Tryz.sizeOf40, rfl, trivial⟩, Tryz.sizeOf48, Tryz.zeroValue48, (by show Tryz.prog.stoodInHeld 48 = false; kernel_rfl), by kernel_rfl⟩,
   ⟨Tryz.underlying49, Tryz.sizeOf49, Tryz.zeroValue49, trivial, by kernel_rfl⟩,
   ⟨⟨_, Tryz.underlying50, rfl, rfl, Tryz.sizeOf48, rfl, rfl, rfl, Tryz.sizeOf49, rfl, rfl, rfl, Tryz.sizeOf3, rfl, rfl, rfl, Tryz.sizeOf4, rfl, trivial⟩, Tryz.sizeOf50, Tryz.zeroValue50, (by show Tryz.prog.stoodInHeld 50 = false; kernel_rfl), by kernel_rfl⟩,
   ⟨⟨_, Tryz.underlying51, rfl, rfl, Tryz.sizeOf48, rfl, rfl, rfl, Tryz.sizeOf49, rfl, rfl, rfl, Tryz.sizeOf3, rfl, rfl, rfl, Tryz.sizeOf4, rfl, trivial⟩, Tryz.sizeOf51, Tryz.zeroValue51, (by show Tryz.prog.stoodInHeld 51 = false; kernel_rfl), by kernel_rfl⟩,
   ⟨Tryz.underlying52, Tryz.sizeOf52, Tryz.zeroValue52, trivial, by kernel_rfl⟩,
   ⟨Tryz.underlying53, Tryz.sizeOf53, Tryz.zeroValue53, trivial, by kernel_rfl⟩,
   ⟨Tryz.underlying54, Tryz.sizeOf54, Tryz.zeroValue54, trivial, by kernel_rfl⟩,
   ⟨⟨_, Tryz.underlying55, rfl, rfl, Tryz.sizeOf53, rfl, rfl, rfl, Tryz.sizeOf54, rfl, trivial⟩, Tryz.sizeOf55, Tryz.zeroValue55, (by show Tryz.prog.stoodInHeld 55 = false; kernel_rfl), by kernel_rfl⟩,
   ⟨⟨_, Tryz.underlying56, rfl, rfl, Tryz.sizeOf53, rfl, rfl, rfl, Tryz.sizeOf54, rfl, trivial⟩, Tryz.sizeOf56, Tryz.zeroValue56, (by show Tryz.prog.stoodInHeld 56 = false; kernel_rfl), by kernel_rfl⟩,
   ⟨Tryz.underlying58, Tryz.sizeOf58, Tryz.zeroValue58, trivial, by kernel_rfl⟩,
   ⟨⟨_, Tryz.underlying59, rfl, rfl, Tryz.sizeOf3, rfl, rfl, rfl, Tryz.sizeOf3, rfl, rfl, rfl, Tryz.sizeOf3, rfl, rfl, rfl, Tryz.sizeOf3, rfl, rfl, rfl, Tryz.sizeOf27, rfl, rfl, rfl, Tryz.sizeOf22, rfl, trivial⟩, Tryz.sizeOf59, Tryz.zeroValue59, (by show Tryz.prog.stoodInHeld 59 = false; kernel_rfl), by kernel_rfl⟩,
   ⟨⟨_, Tryz.underlying60, rfl, rfl, Tryz.sizeOf3, rfl, rfl, rfl, Tryz.sizeOf3, rfl, rfl, rfl, Tryz.sizeOf3, rfl, rfl, rfl, Tryz.sizeOf3, rfl, rfl, rfl, Tryz.sizeOf27, rfl, rfl, rfl, Tryz.sizeOf22, rfl, trivial⟩, Tryz.sizeOf60, Tryz.zeroValue60, (by show Tryz.prog.stoodInHeld 60 = false; kernel_rfl), by kernel_rfl⟩,
   ⟨Tryz.underlying67, Tryz.sizeOf67, Tryz.zeroValue67, trivial, by kernel_rfl⟩,
   ⟨Tryz.underlying68, Tryz.sizeOf68, Tryz.zeroValue68, trivial, by kernel_rfl⟩,
   ⟨⟨_, Tryz.underlying69, rfl, rfl, Tryz.sizeOf68, rfl, rfl, rfl, Tryz.sizeOf27, rfl, trivial⟩, Tryz.sizeOf69, Tryz.zeroValue69, (by show Tryz.prog.stoodInHeld 69 = false; kernel_rfl), by kernel_rfl⟩,
   ⟨⟨_, Tryz.underlying70, rfl, rfl, Tryz.sizeOf68, rfl, rfl, rfl, Tryz.sizeOf27, rfl, trivial⟩, Tryz.sizeOf70, Tryz.zeroValue70, (by show Tryz.prog.stoodInHeld 70 = false; kernel_rfl), by kernel_rfl⟩,
   ⟨Tryz.underlying73, Tryz.sizeOf73, Tryz.zeroValue73, trivial, by kernel_rfl⟩,
   ⟨⟨_, Tryz.underlying75, rfl, rfl, Tryz.sizeOf68, rfl, rfl, rfl, Tryz.sizeOf40, rfl, trivial⟩, Tryz.sizeOf75, Tryz.zeroValue75, (by show Tryz.prog.stoodInHeld 75 = false; kernel_rfl), by kernel_rfl⟩,
   ⟨⟨_, Tryz.underlying76, rfl, rfl, Tryz.sizeOf68, rfl, rfl, rfl, Tryz.sizeOf40, rfl, trivial⟩, Tryz.sizeOf76, Tryz.zeroValue76, (by show Tryz.prog.stoodInHeld 76 = false; kernel_rfl), by kernel_rfl⟩,
   ⟨Tryz.underlying86, Tryz.sizeOf86, Tryz.zeroValue86, trivial, by kernel_rfl⟩,
   ⟨Tryz.underlying87, Tryz.sizeOf87, Tryz.zeroValue87, trivial, by kernel_rfl⟩,
   ⟨⟨_, _, _, Tryz.underlying89⟩, Tryz.sizeOf89, Tryz.zeroValue89, trivial, by kernel_rfl⟩,
   ⟨Tryz.underlying92, Tryz.sizeOf92, Tryz.zeroValue92, trivial, by kernel_rfl⟩,
   ⟨Tryz.underlying94, Tryz.sizeOf94, Tryz.zeroValue94, trivial, by kernel_rfl⟩,
   ⟨Tryz.underlying95, Tryz.sizeOf95, Tryz.zeroValue95, trivial, by kernel_rfl⟩,
   ⟨⟨_, Tryz.underlying96, rfl, rfl, Tryz.sizeOf3, rfl, rfl, rfl, Tryz.sizeOf3, rfl, rfl, rfl, Tryz.sizeOf3, rfl, rfl, rfl, Tryz.sizeOf3, rfl, trivial⟩, Tryz.sizeOf96, Tryz.zeroValue96, (by show Tryz.prog.stoodInHeld 96 = false; kernel_rfl), by kernel_rfl⟩,
   ⟨⟨_, Tryz.underlying97, rfl, rfl, Tryz.sizeOf3, rfl, rfl, rfl, Tryz.sizeOf3, rfl, rfl, rfl, Tryz.sizeOf3, rfl, rfl, rfl, Tryz.sizeOf3, rfl, trivial⟩, Tryz.sizeOf97, Tryz.zeroValue97, (by show Tryz.prog.stoodInHeld 97 = false; kernel_rfl), by kernel_rfl⟩,
   ⟨Tryz.underlying98, Tryz.sizeOf98, Tryz.zeroValue98, trivial, by kernel_rfl⟩,
   ⟨⟨_, Tryz.underlying99, rfl, rfl, Tryz.sizeOf97, rfl, rfl, rfl, Tryz.sizeOf98, rfl, trivial⟩, Tryz.sizeOf99, Tryz.zeroValue99, (by show Tryz.prog.stoodInHeld 99 = false; kernel_rfl), by kernel_rfl⟩,
   ⟨⟨_, Tryz.underlying100, rfl, rfl, Tryz.sizeOf97, rfl, rfl, rfl, Tryz.sizeOf98, rfl, trivial⟩, Tryz.sizeOf100, Tryz.zeroValue100, (by show Tryz.prog.stoodInHeld 100 = false; kernel_rfl), by kernel_rfl⟩,
   ⟨Tryz.underlying105, Tryz.sizeOf105, Tryz.zeroValue105, trivial, by kernel_rfl⟩,
   ⟨Tryz.underlying110, Tryz.sizeOf110, Tryz.zeroValue110, trivial, by kernel_rfl⟩,
   ⟨⟨_, Tryz.underlying115, rfl, rfl, Tryz.sizeOf3, rfl, rfl, rfl, Tryz.sizeOf3, rfl, rfl, rfl, Tryz.sizeOf22, rfl, trivial⟩, Tryz.sizeOf115, Tryz.zeroValue115, (by show Tryz.prog.stoodInHeld 115 = false; kernel_rfl), by kernel_rfl⟩,
   ⟨⟨_, Tryz.underlying116, rfl, rfl, Tryz.sizeOf3, rfl, rfl, rfl, Tryz.sizeOf3, rfl, rfl, rfl, Tryz.sizeOf22, rfl, trivial⟩, Tryz.sizeOf116, Tryz.zeroValue116, (by show Tryz.prog.stoodInHeld 116 = false; kernel_rfl), by kernel_rfl⟩,
   ⟨⟨_, Tryz.underlying117, rfl, rfl, Tryz.sizeOf3, rfl, rfl, rfl, Tryz.sizeOf3, rfl, trivial⟩, Tryz.sizeOf117, Tryz.zeroValue117, (by show Tryz.prog.stoodInHeld 117 = false; kernel_rfl), by kernel_rfl⟩,
   ⟨⟨_, Tryz.underlying118, rfl, rfl, Tryz.sizeOf3, rfl, rfl, rfl, Tryz.sizeOf3, rfl, trivial⟩, Tryz.sizeOf118, Tryz.zeroValue118, (by show Tryz.prog.stoodInHeld 118 = false; kernel_rfl), by kernel_rfl⟩,
   ⟨⟨_, Tryz.underlying119, rfl, rfl, Tryz.sizeOf3, rfl, rfl, rfl, Tryz.sizeOf97, rfl, rfl, rfl, Tryz.sizeOf3, rfl, rfl, rfl, Tryz.sizeOf118, rfl, rfl, rfl, Tryz.sizeOf22, rfl, rfl, rfl, Tryz.sizeOf98, rfl, trivial⟩, Tryz.sizeOf119, Tryz.zeroValue119, (by show Tryz.prog.stoodInHeld 119 = false; kernel_rfl), by kernel_rfl⟩,
   ⟨Tryz.underlying123, Tryz.sizeOf123, Tryz.zeroValue123, trivial, by kernel_rfl⟩,
   ⟨⟨_, Tryz.underlying127, rfl, rfl, Tryz.sizeOf3, rfl, rfl, rfl, Tryz.sizeOf3, rfl, rfl, rfl, Tryz.sizeOf3, rfl, rfl, rfl, Tryz.sizeOf3, rfl, trivial⟩, Tryz.sizeOf127, Tryz.zeroValue127, (by show Tryz.prog.stoodInHeld 127 = false; kernel_rfl), by kernel_rfl⟩,
   ⟨Tryz.underlying132, Tryz.sizeOf132, Tryz.zeroValue132, trivial, by kernel_rfl⟩,
   ⟨⟨_, Tryz.underlying140, rfl, rfl, Tryz.sizeOf3, rfl, rfl, rfl, Tryz.sizeOf3, rfl, trivial⟩, Tryz.sizeOf140, Tryz.zeroValue140, (by show Tryz.prog.stoodInHeld 140 = false; kernel_rfl), by kernel_rfl⟩,
   ⟨⟨_, Tryz.underlying141, rfl, rfl, Tryz.sizeOf3, rfl, rfl, rfl, Tryz.sizeOf127, rfl, rfl, rfl, Tryz.sizeOf3, rfl, rfl, rfl, Tryz.sizeOf140, rfl, rfl, rfl, Tryz.sizeOf22, rfl, rfl, rfl, Tryz.sizeOf98, rfl, trivial⟩, Tryz.sizeOf141, Tryz.zeroValue141, (by show Tryz.prog.stoodInHeld 141 = false; kernel_rfl), by kernel_rfl⟩,
   ⟨⟨_, Tryz.underlying142, rfl, rfl, Tryz.sizeOf3, rfl, rfl, rfl, Tryz.sizeOf127, rfl, rfl, rfl, Tryz.sizeOf3, rfl, rfl, rfl, Tryz.sizeOf140, rfl, rfl, rfl, Tryz.sizeOf22, rfl, rfl, rfl, Tryz.sizeOf98, rfl, trivial⟩, Tryz.sizeOf142, Tryz.zeroValue142, (by show Tryz.prog.stoodInHeld 142 = false; kernel_rfl), by kernel_rfl⟩,
   ⟨⟨_, Tryz.underlying143, rfl, rfl, Tryz.sizeOf3, rfl, rfl, rfl, Tryz.sizeOf3, rfl, rfl, rfl, Tryz.sizeOf3, rfl, rfl, rfl, Tryz.sizeOf142, rfl, trivial⟩, Tryz.sizeOf143, Tryz.zeroValue143, (by show Tryz.prog.stoodInHeld 143 = false; kernel_rfl), by kernel_rfl⟩,
   ⟨Tryz.underlying157, Tryz.sizeOf157, Tryz.zeroValue157, trivial, by kernel_rfl⟩,
   ⟨Tryz.underlying161, Tryz.sizeOf161, Tryz.zeroValue161, trivial, by kernel_rfl⟩,
   ⟨⟨_, Tryz.underlying163, rfl, rfl, Tryz.sizeOf3, rfl, rfl, rfl, Tryz.sizeOf3, rfl, rfl, rfl, Tryz.sizeOf27, rfl, trivial⟩, Tryz.sizeOf163, Tryz.zeroValue163, (by show Tryz.prog.stoodInHeld 163 = false; kernel_rfl), by kernel_rfl⟩,
   ⟨⟨_, Tryz.underlying164, rfl, rfl, Tryz.sizeOf3, rfl, rfl, rfl, Tryz.sizeOf3, rfl, rfl, rfl, Tryz.sizeOf27, rfl, trivial⟩, Tryz.sizeOf164, Tryz.zeroValue164, (by show Tryz.prog.stoodInHeld 164 = false; kernel_rfl), by kernel_rfl⟩,
   ⟨⟨_, Tryz.underlying165, rfl, rfl, Tryz.sizeOf35, rfl, rfl, rfl, Tryz.sizeOf161, rfl, rfl, rfl, Tryz.sizeOf3, rfl, rfl, rfl, Tryz.sizeOf4, rfl, trivial⟩, Tryz.sizeOf165, Tryz.zeroValue165, (by show Tryz.prog.stoodInHeld 165 = false; kernel_rfl), by kernel_rfl⟩,
   ⟨⟨_, Tryz.underlying166, rfl, rfl, Tryz.sizeOf35, rfl, rfl, rfl, Tryz.sizeOf161, rfl, rfl, rfl, Tryz.sizeOf3, rfl, rfl, rfl, Tryz.sizeOf4, rfl, trivial⟩, Tryz.sizeOf166, Tryz.zeroValue166, (by show Tryz.prog.stoodInHeld 166 = false; kernel_rfl), by kernel_rfl⟩,
   ⟨⟨_, _, _, Tryz.underlying167⟩, Tryz.sizeOf167, Tryz.zeroValue167, trivial, by kernel_rfl⟩,
   ⟨⟨_, Tryz.underlying183, rfl, rfl, Tryz.sizeOf3, rfl, rfl, rfl, Tryz.sizeOf3, rfl, rfl, rfl, Tryz.sizeOf27, rfl, trivial⟩, Tryz.sizeOf183, Tryz.zeroValue183, (by show Tryz.prog.stoodInHeld 183 = false; kernel_rfl), by kernel_rfl⟩,
   ⟨⟨_, Tryz.underlying184, rfl, rfl, Tryz.sizeOf3, rfl, rfl, rfl, Tryz.sizeOf3, rfl, rfl, rfl, Tryz.sizeOf27, rfl, trivial⟩, Tryz.sizeOf184, Tryz.zeroValue184, (by show Tryz.prog.stoodInHeld 184 = false; kernel_rfl), by kernel_rfl⟩,
   ⟨⟨_, Tryz.underlying186, rfl, rfl, Tryz.sizeOf3, rfl, rfl, rfl, Tryz.sizeOf3, rfl, rfl, rfl, Tryz.sizeOf22, rfl, trivial⟩, Tryz.sizeOf186, Tryz.zeroValue186, (by show Tryz.prog.stoodInHeld 186 = false; kernel_rfl), by kernel_rfl⟩,
   ⟨⟨_, Tryz.underlying187, rfl, rfl, Tryz.sizeOf3, rfl, rfl, rfl, Tryz.sizeOf3, rfl, rfl, rfl, Tryz.sizeOf22, rfl, trivial⟩, Tryz.sizeOf187, Tryz.zeroValue187, (by show Tryz.prog.stoodInHeld 187 = false; kernel_rfl), by kernel_rfl⟩,
   ⟨⟨_, Tryz.underlying190, rfl, rfl, Tryz.sizeOf40, rfl, trivial⟩, Tryz.sizeOf190, Tryz.zeroValue190, (by show Tryz.prog.stoodInHeld 190 = false; kernel_rfl), by kernel_rfl⟩,
   ⟨⟨_, Tryz.underlying191, rfl, rfl, Tryz.sizeOf40, rfl, trivial⟩, Tryz.sizeOf191, Tryz.zeroValue191, (by show Tryz.prog.stoodInHeld 191 = false; kernel_rfl), by kernel_rfl⟩,
   ⟨⟨_, Tryz.underlying202, rfl, rfl, Tryz.sizeOf22, rfl, rfl, rfl, Tryz.sizeOf24, rfl, trivial⟩, Tryz.sizeOf202, Tryz.zeroValue202, (by show Tryz.prog.stoodInHeld 202 = false; kernel_rfl), by kernel_rfl⟩,
   ⟨⟨_, Tryz.underlying203, rfl, rfl, Tryz.sizeOf22, rfl, rfl, rfl, Tryz.sizeOf24, rfl, trivial⟩, Tryz.sizeOf203, Tryz.zeroValue203, (by show Tryz.prog.stoodInHeld 203 = false; kernel_rfl), by kernel_rfl⟩,
   ⟨⟨_, Tryz.underlying204, rfl, rfl, Tryz.sizeOf203, rfl, trivial⟩, Tryz.sizeOf204, Tryz.zeroValue204, (by show Tryz.prog.stoodInHeld 204 = false; kernel_rfl), by kernel_rfl⟩,
   ⟨⟨_, Tryz.underlying205, rfl, rfl, Tryz.sizeOf203, rfl, trivial⟩, Tryz.sizeOf205, Tryz.zeroValue205, (by show Tryz.prog.stoodInHeld 205 = false; kernel_rfl), by kernel_rfl⟩,
   ⟨Tryz.underlying215, Tryz.sizeOf215, Tryz.zeroValue215, trivial, by kernel_rfl⟩,
   ⟨⟨_, Tryz.underlying216, rfl, rfl, Tryz.sizeOf215, rfl, trivial⟩, Tryz.sizeOf216, Tryz.zeroValue216, (by show Tryz.prog.stoodInHeld 216 = false; kernel_rfl), by kernel_rfl⟩,
   ⟨⟨_, Tryz.underlying217, rfl, rfl, Tryz.sizeOf215, rfl, trivial⟩, Tryz.sizeOf217, Tryz.zeroValue217, (by show Tryz.prog.stoodInHeld 217 = false; kernel_rfl), by kernel_rfl⟩,
   ⟨Tryz.underlying223, Tryz.sizeOf223, Tryz.zeroValue223, trivial, by kernel_rfl⟩,
   ⟨⟨_, Tryz.underlying228, rfl, rfl, Tryz.sizeOf118, rfl, rfl, rfl, Tryz.sizeOf58, rfl, trivial⟩, Tryz.sizeOf228, Tryz.zeroValue228, (by show Tryz.prog.stoodInHeld 228 = false; kernel_rfl), by kernel_rfl⟩,
   ⟨⟨_, Tryz.underlying229, rfl, rfl, Tryz.sizeOf118, rfl, rfl, rfl, Tryz.sizeOf58, rfl, trivial⟩, Tryz.sizeOf229, Tryz.zeroValue229, (by show Tryz.prog.stoodInHeld 229 = false; kernel_rfl), by kernel_rfl⟩,
   ⟨Tryz.underlying230, Tryz.sizeOf230, Tryz.zeroValue230, trivial, by kernel_rfl⟩,
   ⟨⟨_, Tryz.underlying231, rfl, rfl, Tryz.sizeOf223, rfl, rfl, rfl, Tryz.sizeOf105, rfl, rfl, rfl, Tryz.sizeOf110, rfl, rfl, rfl, Tryz.sizeOf123, rfl, rfl, rfl, Tryz.sizeOf230, rfl, trivial⟩, Tryz.sizeOf231, Tryz.zeroValue231, (by show Tryz.prog.stoodInHeld 231 = false; kernel_rfl), by kernel_rfl⟩,
   ⟨⟨_, Tryz.underlying232, rfl, rfl, Tryz.sizeOf223, rfl, rfl, rfl, Tryz.sizeOf105, rfl, rfl, rfl, Tryz.sizeOf110, rfl, rfl, rfl, Tryz.sizeOf123, rfl, rfl, rfl, Tryz.sizeOf230, rfl, trivial⟩, Tryz.sizeOf232, Tryz.zeroValue232, (by show Tryz.prog.stoodInHeld 232 = false; kernel_rfl), by kernel_rfl⟩,
   ⟨Tryz.underlying233, Tryz.sizeOf233, Tryz.zeroValue233, trivial, by kernel_rfl⟩,
   ⟨Tryz.underlying234, Tryz.sizeOf234, Tryz.zeroValue234, trivial, by kernel_rfl⟩,
   ⟨⟨_, Tryz.underlying235, rfl, rfl, Tryz.sizeOf100, rfl, rfl, rfl, Tryz.sizeOf233, rfl, rfl, rfl, Tryz.sizeOf234, rfl, trivial⟩, Tryz.sizeOf235, Tryz.zeroValue235, (by show Tryz.prog.stoodInHeld 235 = false; kernel_rfl), by kernel_rfl⟩,
   ⟨⟨_, Tryz.underlying236, rfl, rfl, Tryz.sizeOf100, rfl, rfl, rfl, Tryz.sizeOf233, rfl, rfl, rfl, Tryz.sizeOf234, rfl, trivial⟩, Tryz.sizeOf236, Tryz.zeroValue236, (by show Tryz.prog.stoodInHeld 236 = false; kernel_rfl), by kernel_rfl⟩,
   ⟨Tryz.underlying240, Tryz.sizeOf240, Tryz.zeroValue240, trivial, by kernel_rfl⟩,
   ⟨Tryz.underlying241, Tryz.sizeOf241, Tryz.zeroValue241, trivial, by kernel_rfl⟩,
   ⟨⟨_, Tryz.underlying242, rfl, rfl, Tryz.sizeOf241, rfl, trivial⟩, Tryz.sizeOf242, Tryz.zeroValue242, (by show Tryz.prog.stoodInHeld 242 = false; kernel_rfl), by kernel_rfl⟩,
   ⟨⟨_, Tryz.underlying243, rfl, rfl, Tryz.sizeOf241, rfl, trivial⟩, Tryz.sizeOf243, Tryz.zeroValue243, (by show Tryz.prog.stoodInHeld 243 = false; kernel_rfl), by kernel_rfl⟩,
   ⟨⟨_, Tryz.underlying244, rfl, rfl, Tryz.sizeOf229, rfl, rfl, rfl, Tryz.sizeOf92, rfl, rfl, rfl, Tryz.sizeOf3, rfl, trivial⟩, Tryz.sizeOf244, Tryz.zeroValue244, (by show Tryz.prog.stoodInHeld 244 = false; kernel_rfl), by kernel_rfl⟩,
   ⟨⟨_, Tryz.underlying245, rfl, rfl, Tryz.sizeOf229, rfl, rfl, rfl, Tryz.sizeOf92, rfl, rfl, rfl, Tryz.sizeOf3, rfl, trivial⟩, Tryz.sizeOf245, Tryz.zeroValue245, (by show Tryz.prog.stoodInHeld 245 = false; kernel_rfl), by kernel_rfl⟩,
   ⟨Tryz.underlying258, Tryz.sizeOf258, Tryz.zeroValue258, trivial, by kernel_rfl⟩,
   ⟨⟨_, Tryz.underlying274, rfl, rfl, Tryz.sizeOf94, rfl, rfl, rfl, Tryz.sizeOf3, rfl, rfl, rfl, Tryz.sizeOf3, rfl, rfl, rfl, Tryz.sizeOf3, rfl, rfl, rfl, Tryz.sizeOf3, rfl, rfl, rfl, Tryz.sizeOf157, rfl, trivial⟩, Tryz.sizeOf274, Tryz.zeroValue274, (by show Tryz.prog.stoodInHeld 274 = false; kernel_rfl), by kernel_rfl⟩,
   ⟨⟨_, Tryz.underlying275, rfl, rfl, Tryz.sizeOf94, rfl, rfl, rfl, Tryz.sizeOf3, rfl, rfl, rfl, Tryz.sizeOf3, rfl, rfl, rfl, Tryz.sizeOf3, rfl, rfl, rfl, Tryz.sizeOf3, rfl, rfl, rfl, Tryz.sizeOf157, rfl, trivial⟩, Tryz.sizeOf275, Tryz.zeroValue275, (by show Tryz.prog.stoodInHeld 275 = false; kernel_rfl), by kernel_rfl⟩,
   ⟨⟨_, Tryz.underlying287, rfl, rfl, Tryz.sizeOf22, rfl, rfl, rfl, Tryz.sizeOf24, rfl, trivial⟩, Tryz.sizeOf287, Tryz.zeroValue287, (by show Tryz.prog.stoodInHeld 287 = false; kernel_rfl), by kernel_rfl⟩,
   ⟨Tryz.underlying288, Tryz.sizeOf288, Tryz.zeroValue288, trivial, by kernel_rfl⟩,
   ⟨⟨_, Tryz.underlying293, rfl, rfl, Tryz.sizeOf3, rfl, rfl, rfl, Tryz.sizeOf3, rfl, rfl, rfl, Tryz.sizeOf22, rfl, trivial⟩, Tryz.sizeOf293, Tryz.zeroValue293, (by show Tryz.prog.stoodInHeld 293 = false; kernel_rfl), by kernel_rfl⟩,
   ⟨⟨_, _, _, Tryz.underlying296⟩, Tryz.sizeOf296, Tryz.zeroValue296, trivial, by kernel_rfl⟩,
   ⟨⟨_, _, _, Tryz.underlying297⟩, Tryz.sizeOf297, Tryz.zeroValue297, trivial, by kernel_rfl⟩,
   ⟨⟨_, _, _, Tryz.underlying304⟩, Tryz.sizeOf304, Tryz.zeroValue304, trivial, by kernel_rfl⟩,
   ⟨⟨_, _, _, Tryz.underlying305⟩, Tryz.sizeOf305, Tryz.zeroValue305, trivial, by kernel_rfl⟩,
   ⟨Tryz.underlying307, Tryz.sizeOf307, Tryz.zeroValue307, trivial, by kernel_rfl⟩,
   ⟨⟨_, Tryz.underlying309, rfl, rfl, Tryz.sizeOf54, rfl, trivial⟩, Tryz.sizeOf309, Tryz.zeroValue309, (by show Tryz.prog.stoodInHeld 309 = false; kernel_rfl), by kernel_rfl⟩,
   ⟨⟨_, Tryz.underlying310, rfl, rfl, Tryz.sizeOf54, rfl, trivial⟩, Tryz.sizeOf310, Tryz.zeroValue310, (by show Tryz.prog.stoodInHeld 310 = false; kernel_rfl), by kernel_rfl⟩,
   ⟨⟨_, Tryz.underlying311, rfl, rfl, Tryz.sizeOf310, rfl, rfl, rfl, Tryz.sizeOf4, rfl, rfl, rfl, Tryz.sizeOf22, rfl, rfl, rfl, Tryz.sizeOf3, rfl, trivial⟩, Tryz.sizeOf311, Tryz.zeroValue311, (by show Tryz.prog.stoodInHeld 311 = false; kernel_rfl), by kernel_rfl⟩,
   ⟨⟨_, Tryz.underlying312, rfl, rfl, Tryz.sizeOf310, rfl, rfl, rfl, Tryz.sizeOf4, rfl, rfl, rfl, Tryz.sizeOf22, rfl, rfl, rfl, Tryz.sizeOf3, rfl, trivial⟩, Tryz.sizeOf312, Tryz.zeroValue312, (by show Tryz.prog.stoodInHeld 312 = false; kernel_rfl), by kernel_rfl⟩,
   ⟨Tryz.underlying313, Tryz.sizeOf313, Tryz.zeroValue313, trivial, by kernel_rfl⟩,
   ⟨Tryz.underlying315, Tryz.sizeOf315, Tryz.zeroValue315, trivial, by kernel_rfl⟩,
   ⟨⟨_, Tryz.underlying323, rfl, rfl, Tryz.sizeOf118, rfl, trivial⟩, Tryz.sizeOf323, Tryz.zeroValue323, (by show Tryz.prog.stoodInHeld 323 = false; kernel_rfl), by kernel_rfl⟩,
   ⟨⟨_, Tryz.underlying324, rfl, rfl, Tryz.sizeOf118, rfl, trivial⟩, Tryz.sizeOf324, Tryz.zeroValue324, (by show Tryz.prog.stoodInHeld 324 = false; kernel_rfl), by kernel_rfl⟩,
   ⟨⟨_, Tryz.underlying325, rfl, rfl, Tryz.sizeOf3, rfl, rfl, rfl, Tryz.sizeOf258, rfl, trivial⟩, Tryz.sizeOf325, Tryz.zeroValue325, (by show Tryz.prog.stoodInHeld 325 = false; kernel_rfl), by kernel_rfl⟩,
   ⟨⟨_, Tryz.underlying326, rfl, rfl, Tryz.sizeOf3, rfl, rfl, rfl, Tryz.sizeOf258, rfl, trivial⟩, Tryz.sizeOf326, Tryz.zeroValue326, (by show Tryz.prog.stoodInHeld 326 = false; kernel_rfl), by kernel_rfl⟩,
   ⟨⟨_, Tryz.underlying328, rfl, rfl, Tryz.sizeOf3, rfl, rfl, rfl, Tryz.sizeOf3, rfl, rfl, rfl, Tryz.sizeOf3, rfl, trivial⟩, Tryz.sizeOf328, Tryz.zeroValue328, (by show Tryz.prog.stoodInHeld 328 = false; kernel_rfl), by kernel_rfl⟩,
   ⟨⟨_, Tryz.underlying329, rfl, rfl, Tryz.sizeOf3, rfl, rfl, rfl, Tryz.sizeOf3, rfl, rfl, rfl, Tryz.sizeOf3, rfl, trivial⟩, Tryz.sizeOf329, Tryz.zeroValue329, (by show Tryz.prog.stoodInHeld 329 = false; kernel_rfl), by kernel_rfl⟩,
   ⟨⟨_, Tryz.underlying334, rfl, rfl, Tryz.sizeOf73, rfl, trivial⟩, Tryz.sizeOf334, Tryz.zeroValue334, (by show Tryz.prog.stoodInHeld 334 = false; kernel_rfl), by kernel_rfl⟩,
   ⟨⟨_, _, _, Tryz.underlying357⟩, Tryz.sizeOf357, Tryz.zeroValue357, trivial, by kernel_rfl⟩,
   ⟨Tryz.underlying366, Tryz.sizeOf366, Tryz.zeroValue366, trivial, by kernel_rfl⟩,
   ⟨Tryz.underlying390, Tryz.sizeOf390, Tryz.zeroValue390, trivial, by kernel_rfl⟩,
   ⟨Tryz.underlying393, Tryz.sizeOf393, Tryz.zeroValue393, trivial, by kernel_rfl⟩,
   ⟨Tryz.underlying394, Tryz.sizeOf394, Tryz.zeroValue394, trivial, by kernel_rfl⟩,
   ⟨Tryz.underlying398, Tryz.sizeOf398, Tryz.zeroValue398, trivial, by kernel_rfl⟩,
   ⟨⟨_, _, _, Tryz.underlying412⟩, Tryz.sizeOf412, Tryz.zeroValue412, trivial, by kernel_rfl⟩,
   ⟨Tryz.underlying413, Tryz.sizeOf413, Tryz.zeroValue413, trivial, by kernel_rfl⟩,
   ⟨Tryz.underlying442, Tryz.sizeOf442, Tryz.zeroValue442, trivial, by kernel_rfl⟩,
   ⟨Tryz.underlying443, Tryz.sizeOf443, Tryz.zeroValue443, trivial, by kernel_rfl⟩,
   ⟨⟨_, _, _, Tryz.underlying444⟩, Tryz.sizeOf444, Tryz.zeroValue444, trivial, by kernel_rfl⟩,
   ⟨Tryz.underlying445, Tryz.sizeOf445, Tryz.zeroValue445, trivial, by kernel_rfl⟩,
   ⟨Tryz.underlying446, Tryz.sizeOf446, Tryz.zeroValue446, trivial, by kernel_rfl⟩,
   ⟨Tryz.underlying447, Tryz.sizeOf447, Tryz.zeroValue447, trivial, by kernel_rfl⟩,
   trivial⟩
set_option maxRecDepth 100000 in
theorem fnsGood : FGoods Tryz.prog [3, 8, 9, 10, 11, 12, 13, 14, 15, 17, 25, 26, 27, 31, 65, 66, 67, 68, 69, 70, 71, 72, 73, 74, 75, 76, 77, 78, 79, 80, 81, 86, 87, 88, 96, 97, 98, 99, 100, 101, 103, 106, 107, 108, 143, 144, 145, 146, 147, 148, 149, 150, 151, 152, 153, 154, 157, 158, 159, 160, 161, 162, 163, 165, 166, 168, 169, 170, 200, 201, 202, 203, 204, 207, 208, 209, 210, 211, 212, 213, 214, 216, 217, 218, 219, 220, 221, 222, 223, 224, 225, 226, 247, 248, 249, 250, 251, 252, 253, 254, 255, 256, 257, 269, 270, 271, 272, 273, 274, 281] :=
  ⟨enters_of Tryz.func3 (by kernel_rfl) rfl,
   enters_of Tryz.func8 (by kernel_rfl) rfl,
   enters_of Tryz.func9 (by kernel_rfl) rfl,
   enters_of Tryz.func10 (by kernel_rfl) rfl,
   enters_of Tryz.func11 (by kernel_rfl) rfl,
   enters_of Tryz.func12 (by kernel_rfl) rfl,
   enters_of Tryz.func13 (by kernel_rfl) rfl,
   enters_of Tryz.func14 (by kernel_rfl) rfl,
   enters_of Tryz.func15 (by kernel_rfl) rfl,
   enters_of Tryz.func17 (by kernel_rfl) rfl,
   enters_of Tryz.func25 (by kernel_rfl) rfl,
   enters_of Tryz.func26 (by kernel_rfl) rfl,
   enters_of Tryz.func27 (by kernel_rfl) rfl,
   enters_of Tryz.func31 (by kernel_rfl) rfl,
   enters_of Tryz.func65 (by kernel_rfl) rfl,
   enters_of Tryz.func66 (by kernel_rfl) rfl,
   enters_of Tryz.func67 (by kernel_rfl) rfl,
   enters_of Tryz.func68 (by kernel_rfl) rfl,
   enters_of Tryz.func69 (by kernel_rfl) rfl,
   enters_of Tryz.func70 (by kernel_rfl) rfl,
   enters_of Tryz.func71 (by kernel_rfl) rfl,
   enters_of Tryz.func72 (by kernel_rfl) rfl,
   enters_of Tryz.func73 (by kernel_rfl) rfl,
   enters_of Tryz.func74 (by kernel_rfl) rfl,
   enters_of Tryz.func75 (by kernel_rfl) rfl,
   enters_of Tryz.func76 (by kernel_rfl) rfl,
   enters_of Tryz.func77 (by kernel_rfl) rfl,
   enters_of Tryz.func78 (by kernel_rfl) rfl,
   enters_of Tryz.func79 (by kernel_rfl) rfl,
   enters_of Tryz.func80 (by kernel_rfl) rfl,
   enters_of Tryz.func81 (by kernel_rfl) rfl,
   enters_of Tryz.func86 (by kernel_rfl) rfl,
   enters_of Tryz.func87 (by kernel_rfl) rfl,
   enters_of Tryz.func88 (by kernel_rfl) rfl,
   enters_of Tryz.func96 (by kernel_rfl) rfl,
   enters_of Tryz.func97 (by kernel_rfl) rfl,
   enters_of Tryz.func98 (by kernel_rfl) rfl,
   enters_of Tryz.func99 (by kernel_rfl) rfl,
   enters_of Tryz.func100 (by kernel_rfl) rfl,
   enters_of Tryz.func101 (by kernel_rfl) rfl,
   enters_of Tryz.func103 (by kernel_rfl) rfl,
   enters_of Tryz.func106 (by kernel_rfl) rfl,
   enters_of Tryz.func107 (by kernel_rfl) rfl,
   enters_of Tryz.func108 (by kernel_rfl) rfl,
   enters_of Tryz.func143 (by kernel_rfl) rfl,
   enters_of Tryz.func144 (by kernel_rfl) rfl,
   enters_of Tryz.func145 (by kernel_rfl) rfl,
   enters_of Tryz.func146 (by kernel_rfl) rfl,
   enters_of Tryz.func147 (by kernel_rfl) rfl,
   enters_of Tryz.func148 (by kernel_rfl) rfl,
   enters_of Tryz.func149 (by kernel_rfl) rfl,
   enters_of Tryz.func150 (by kernel_rfl) rfl,
   enters_of Tryz.func151 (by kernel_rfl) rfl,
   enters_of Tryz.func152 (by kernel_rfl) rfl,
   enters_of Tryz.func153 (by kernel_rfl) rfl,
   enters_of Tryz.func154 (by kernel_rfl) rfl,
   enters_of Tryz.func157 (by kernel_rfl) rfl,
   enters_of Tryz.func158 (by kernel_rfl) rfl,
   enters_of Tryz.func159 (by kernel_rfl) rfl,
   enters_of Tryz.func160 (by kernel_rfl) rfl,
   enters_of Tryz.func161 (by kernel_rfl) rfl,
   enters_of Tryz.func162 (by kernel_rfl) rfl,
   enters_of Tryz.func163 (by kernel_rfl) rfl,
   enters_of Tryz.func165 (by kernel_rfl) rfl,
   enters_of Tryz.func166 (by kernel_rfl) rfl,
   enters_of Tryz.func168 (by kernel_rfl) rfl,
   enters_of Tryz.func169 (by kernel_rfl) rfl,
   enters_of Tryz.func170 (by kernel_rfl) rfl,
   enters_of Tryz.func200 (by kernel_rfl) rfl,
   enters_of Tryz.func201 (by kernel_rfl) rfl,
   enters_of Tryz.func202 (by kernel_rfl) rfl,
   enters_of Tryz.func203 (by kernel_rfl) rfl,
   enters_of Tryz.func204 (by kernel_rfl) rfl,
   enters_of Tryz.func207 (by kernel_rfl) rfl,
   enters_of Tryz.func208 (by kernel_rfl) rfl,
   enters_of Tryz.func209 (by kernel_rfl) rfl,
   enters_of Tryz.func210 (by kernel_rfl) rfl,
   enters_of Tryz.func211 (by kernel_rfl) rfl,
   enters_of Tryz.func212 (by kernel_rfl) rfl,
   enters_of Tryz.func213 (by kernel_rfl) rfl,
   enters_of Tryz.func214 (by kernel_rfl) rfl,
   enters_of Tryz.func216 (by kernel_rfl) rfl,
   enters_of Tryz.func217 (by kernel_rfl) rfl,
   enters_of Tryz.func218 (by kernel_rfl) rfl,
   enters_of Tryz.func219 (by kernel_rfl) rfl,
   enters_of Tryz.func220 (by kernel_rfl) rfl,
   enters_of Tryz.func221 (by kernel_rfl) rfl,
   enters_of Tryz.func222 (by kernel_rfl) rfl,
   enters_of Tryz.func223 (by kernel_rfl) rfl,
   enters_of Tryz.func224 (by kernel_rfl) rfl,
   enters_of Tryz.func225 (by kernel_rfl) rfl,
   enters_of Tryz.func226 (by kernel_rfl) rfl,
   enters_of Tryz.func247 (by kernel_rfl) rfl,
   enters_of Tryz.func248 (by kernel_rfl) rfl,
   enters_of Tryz.func249 (by kernel_rfl) rfl,
   enters_of Tryz.func250 (by kernel_rfl) rfl,
   enters_of Tryz.func251 (by kernel_rfl) rfl,
   enters_of Tryz.func252 (by kernel_rfl) rfl,
   enters_of Tryz.func253 (by kernel_rfl) rfl,
   enters_of Tryz.func254 (by kernel_rfl) rfl,
   enters_of Tryz.func255 (by kernel_rfl) rfl,
   enters_of Tryz.func256 (by kernel_rfl) rfl,
   enters_of Tryz.func257 (by kernel_rfl) rfl,
   enters_of Tryz.func269 (by kernel_rfl) rfl,
   enters_of Tryz.func270 (by kernel_rfl) rfl,
   enters_of Tryz.func271 (by kernel_rfl) rfl,
   enters_of Tryz.func272 (by kernel_rfl) rfl,
   enters_of Tryz.func273 (by kernel_rfl) rfl,
   enters_of Tryz.func274 (by kernel_rfl) rfl,
   enters_of Tryz.func281 (by kernel_rfl) rfl, trivial⟩
theorem mixGood : Tryz.prog.follows .mixedOrders = true := by kernel_rfl
def tb : Tb Tryz.prog := { rows := rowsTab, good := rowsGood, fns := [3, 8, 9, 10, 11, 12, 13, 14, 15, 17, 25, 26, 27, 31, 65, 66, 67, 68, 69, 70, 71, 72, 73, 74, 75, 76, 77, 78, 79, 80, 81, 86, 87, 88, 96, 97, 98, 99, 100, 101, 103, 106, 107, 108, 143, 144, 145, 146, 147, 148, 149, 150, 151, 152, 153, 154, 157, 158, 159, 160, 161, 162, 163, 165, 166, 168, 169, 170, 200, 201, 202, 203, 204, 207, 208, 209, 210, 211, 212, 213, 214, 216, 217, 218, 219, 220, 221, 222, 223, 224, 225, 226, 247, 248, 249, 250, 251, 252, 253, 254, 255, 256, 257, 269, 270, 271, 272, 273, 274, 281], fgood := fnsGood, mix := mixGood, deep := Nat.le_of_ble_eq_true (by kernel_rfl) }
set_option linter.unusedSimpArgs false
set_option linter.unusedVariables false
set_option maxRecDepth 100000
def u8V (x : Int) : List Value := [.int .u8 x]
theorem u8V_len (x : Int) : (u8V x).length = 1 := rfl
theorem fl_u8 (bs : List Int) : fl u8V bs = u8s bs := by
  unfold fl u8s
  induction bs with
  | nil => rfl
  | cons a l ih => simp only [List.map_cons, List.flatten_cons, ih]; rfl
def Byt (bs : List Int) : Prop := ∀ x ∈ bs, 0 ≤ x ∧ x ≤ 255
theorem rot_ok (x k s p q : Int) (h : andI .u64 (IntKind.u64.wrap k) 31 = s) (h0 : 0 < s) (h1 : s < 32) (hq : pw s.toNat = q) (hp : pw (32 - s).toNat = p) : CallP Tryz.prog 273 [.int .u32 x, .int .i64 k] (.int .u32 (rotr x p q)) := by
  refine enterP (tb := tb) Tryz.func273 rfl Tryz.ntmps273 rfl fun w => ?_
  have hs32 : s.toNat ≤ IntKind.u32.bits := by show s.toNat ≤ 32; omega
  have hs33 : (32 - s).toNat ≤ IntKind.u32.bits := by show (32 - s).toNat ≤ 32; omega
  repeat' (first | (apply R.is1; first | (apply R.isBin; (apply R.pure; exact rfl; first | (apply Ok1.andE; exact rfl; exact rfl; exact h) | (apply Ok1.subU; exact rfl; exact rfl; omega; omega) | (apply Ok1.shl; exact rfl; exact rfl; omega; exact hs32; exact hq) | (apply Ok1.shr; exact rfl; exact rfl; omega; exact hs33; exact hp) | (apply Ok1.orK; exact rfl; exact rfl))) | (apply R.pure; exact rfl; first | (apply Ok1.move; exact rfl) | (apply Ok1.assign; exact rfl) | (apply Ok1.conv; (iterate 5 exact rfl)))) | apply R.nil | (apply T.is; first | apply T.seq | apply T.region | apply T.ret))
  (apply RetOk.t; exact rfl)
  rfl
theorem turnedA_ok (x : Int) : CallP Tryz.prog 272 [.int .u32 x, .int .i64 6, .int .i64 11, .int .i64 25] (.int .u32 (turned x 64 67108864 2048 2097152 33554432 128)) := by
  refine enterP (tb := tb) Tryz.func272 rfl Tryz.ntmps272 rfl fun w => ?_
  repeat' (first | (apply R.is1; first | (apply R.isBin; (apply R.pure; exact rfl; (apply Ok1.xorK; exact rfl; exact rfl))) | (apply R.isCall; first | apply R.callP rfl rfl rfl (rot_ok x (IntKind.i64.wrap (0 - 6)) 26 64 67108864 (by decide +kernel) (by decide) (by decide) rfl rfl) | apply R.callP rfl rfl rfl (rot_ok x (IntKind.i64.wrap (0 - 11)) 21 2048 2097152 (by decide +kernel) (by decide) (by decide) rfl rfl) | apply R.callP rfl rfl rfl (rot_ok x (IntKind.i64.wrap (0 - 25)) 7 33554432 128 (by decide +kernel) (by decide) (by decide) rfl rfl)) | (apply R.pure; exact rfl; first | (apply Ok1.move; exact rfl) | (apply Ok1.assign; exact rfl) | (apply Ok1.neg; exact rfl))) | apply R.nil | (apply T.is; first | apply T.seq | apply T.region | apply T.ret))
  (apply RetOk.t; exact rfl)
  rfl
theorem turnedB_ok (x : Int) : CallP Tryz.prog 272 [.int .u32 x, .int .i64 2, .int .i64 13, .int .i64 22] (.int .u32 (turned x 4 1073741824 8192 524288 4194304 1024)) := by
  refine enterP (tb := tb) Tryz.func272 rfl Tryz.ntmps272 rfl fun w => ?_
  repeat' (first | (apply R.is1; first | (apply R.isBin; (apply R.pure; exact rfl; (apply Ok1.xorK; exact rfl; exact rfl))) | (apply R.isCall; first | apply R.callP rfl rfl rfl (rot_ok x (IntKind.i64.wrap (0 - 2)) 30 4 1073741824 (by decide +kernel) (by decide) (by decide) rfl rfl) | apply R.callP rfl rfl rfl (rot_ok x (IntKind.i64.wrap (0 - 13)) 19 8192 524288 (by decide +kernel) (by decide) (by decide) rfl rfl) | apply R.callP rfl rfl rfl (rot_ok x (IntKind.i64.wrap (0 - 22)) 10 4194304 1024 (by decide +kernel) (by decide) (by decide) rfl rfl)) | (apply R.pure; exact rfl; first | (apply Ok1.move; exact rfl) | (apply Ok1.assign; exact rfl) | (apply Ok1.neg; exact rfl))) | apply R.nil | (apply T.is; first | apply T.seq | apply T.region | apply T.ret))
  (apply RetOk.t; exact rfl)
  rfl
theorem table_ok : CallP Tryz.prog 271 [] (.agg ⟨u32s kI⟩) := by
  refine enterP (tb := tb) Tryz.func271 rfl Tryz.ntmps271 rfl fun w => ?_
  repeat' (first | (apply R.is1; first | (apply R.pure; exact rfl; (apply Ok1.buildA; (iterate 6 exact rfl))) | (apply R.alloc; (iterate 3 exact rfl); intro)) | (apply R.is0; (apply R.store; (iterate 6 exact rfl); exact Upd.head; exact rfl)) | apply R.nil | (apply T.is; first | apply T.seq | apply T.region | apply T.ret))
  (apply RetOk.c; exact rfl; ((apply Ld.ownk; exact rfl; exact rfl; exact At.head; exact rfl)))
  rfl
theorem begun_ok : CallP Tryz.prog 210 [] (.agg ⟨h0I.v⟩) := by
  refine enterP (tb := tb) Tryz.func210 rfl Tryz.ntmps210 rfl fun w => ?_
  repeat' (first | (apply R.is1; first | (apply R.pure; exact rfl; first | (apply Ok1.build; (iterate 5 exact rfl)) | (apply Ok1.buildA; (iterate 6 exact rfl))) | (apply R.alloc; (iterate 3 exact rfl); intro)) | (apply R.is0; (apply R.store; (iterate 6 exact rfl); exact Upd.head; exact rfl)) | apply R.nil | (apply T.is; first | apply T.seq | apply T.region | apply T.ret))
  (apply RetOk.c; exact rfl; ((apply Ld.ownk; exact rfl; exact rfl; exact At.head; exact rfl)))
  rfl
theorem byt_get {bs : List Int} (hb : Byt bs) {i : Nat} (h : i < bs.length) : ∃ x, bs[i]? = some x ∧ bs.getD i 0 = x ∧ 0 ≤ x ∧ x ≤ 255 := ⟨bs[i], List.getElem?_eq_getElem h, by simp [h], hb _ (List.getElem_mem h)⟩
theorem word_ok (p : Option Addr) (n cap : Nat) (bs : List Int) (hn : n = bs.length) (hl : 4 ≤ bs.length) (hb : Byt bs) (w : World) (hp : RdSl w p u8V bs) : CallW Tryz.prog 281 [.slice p n cap] w fun v _ => v = .int .u32 (wordI (bs.getD 0 0) (bs.getD 1 0) (bs.getD 2 0) (bs.getD 3 0)) := by
  subst hn
  obtain ⟨x0, h0, g0, l0, u0⟩ := byt_get hb (i := 0) (by omega)
  obtain ⟨x1, h1, g1, l1, u1⟩ := byt_get hb (i := 1) (by omega)
  obtain ⟨x2, h2, g2, l2, u2⟩ := byt_get hb (i := 2) (by omega)
  obtain ⟨x3, h3, g3, l3, u3⟩ := byt_get hb (i := 3) (by omega)
  rw [g0, g1, g2, g3]
  obtain ⟨b, o, hpe, H0⟩ := hp.at h0
  replace H0 := H0 1 u8V_len
  obtain ⟨b', o', hpe1, H1⟩ := hp.at h1
  replace H1 := H1 1 u8V_len
  rw [hpe] at hpe1; cases hpe1
  obtain ⟨b', o', hpe1, H2⟩ := hp.at h2
  replace H2 := H2 1 u8V_len
  rw [hpe] at hpe1; cases hpe1
  obtain ⟨b', o', hpe1, H3⟩ := hp.at h3
  replace H3 := H3 1 u8V_len
  rw [hpe] at hpe1; cases hpe1
  refine enterW (tb := tb) Tryz.func281 rfl Tryz.ntmps281 rfl ?_
  repeat' (first | (apply R.is1; (apply R.pure; exact rfl; (apply Ok1.assign; exact rfl))) | apply R.nil | (apply T.is; first | (apply T.drawC (id := 1) [] (by decide); ((apply A.tk 0; exact rfl; kernel_rfl; (apply Ok1.move; exact rfl)) <;> (apply A.tk 1; exact rfl; kernel_rfl; (apply Ok1.indexAddrP; (iterate 4 exact rfl); exact hpe; exact rfl; omega; omega)) <;> (apply A.tk 2; exact rfl; kernel_rfl; (apply Ok1.load; exact rfl; apply Ld.row0 H0; exact rfl; exact List.not_mem_nil; (iterate 3 exact rfl))) <;> (apply A.tk 3; exact rfl; kernel_rfl; (apply Ok1.convU32; (iterate 5 exact rfl); omega; omega)) <;> (apply A.tk 4; exact rfl; kernel_rfl; (apply Ok1.shl; exact rfl; exact rfl; omega; exact Nat.le_of_ble_eq_true rfl; exact rfl)) <;> (apply A.tk 5; exact rfl; kernel_rfl; (apply Ok1.move; exact rfl)) <;> (apply A.tk 6; exact rfl; kernel_rfl; (apply Ok1.indexAddrP; (iterate 4 exact rfl); exact hpe; exact rfl; omega; omega)) <;> (apply A.tk 7; exact rfl; kernel_rfl; (apply Ok1.load; exact rfl; apply Ld.row0 H1; exact rfl; exact List.not_mem_nil; (iterate 3 exact rfl))) <;> (apply A.tk 8; exact rfl; kernel_rfl; (apply Ok1.convU32; (iterate 5 exact rfl); omega; omega)) <;> (apply A.tk 9; exact rfl; kernel_rfl; (apply Ok1.shl; exact rfl; exact rfl; omega; exact Nat.le_of_ble_eq_true rfl; exact rfl)) <;> (apply A.tk 10; exact rfl; kernel_rfl; (apply Ok1.orK; exact rfl; exact rfl)) <;> (apply A.tk 11; exact rfl; kernel_rfl; (apply Ok1.move; exact rfl)) <;> (apply A.tk 12; exact rfl; kernel_rfl; (apply Ok1.indexAddrP; (iterate 4 exact rfl); exact hpe; exact rfl; omega; omega)) <;> (apply A.tk 13; exact rfl; kernel_rfl; (apply Ok1.load; exact rfl; apply Ld.row0 H2; exact rfl; exact List.not_mem_nil; (iterate 3 exact rfl))) <;> (apply A.tk 14; exact rfl; kernel_rfl; (apply Ok1.convU32; (iterate 5 exact rfl); omega; omega)) <;> (apply A.tk 15; exact rfl; kernel_rfl; (apply Ok1.shl; exact rfl; exact rfl; omega; exact Nat.le_of_ble_eq_true rfl; exact rfl)) <;> (apply A.tk 16; exact rfl; kernel_rfl; (apply Ok1.orK; exact rfl; exact rfl)) <;> (apply A.tk 17; exact rfl; kernel_rfl; (apply Ok1.move; exact rfl)) <;> (apply A.tk 18; exact rfl; kernel_rfl; (apply Ok1.indexAddrP; (iterate 4 exact rfl); exact hpe; exact rfl; omega; omega)) <;> (apply A.tk 19; exact rfl; kernel_rfl; (apply Ok1.load; exact rfl; apply Ld.row0 H3; exact rfl; exact List.not_mem_nil; (iterate 3 exact rfl))) <;> (apply A.tk 20; exact rfl; kernel_rfl; (apply Ok1.convU32; (iterate 5 exact rfl); omega; omega)) <;> (apply A.tk 21; exact rfl; kernel_rfl; (apply Ok1.orK; exact rfl; exact rfl)) <;> (apply A.tk 22; exact rfl; kernel_rfl; (apply Ok1.assign; exact rfl)) <;> (apply A.done; kernel_rfl))) | apply T.seq | apply T.region | apply T.ret))
  (apply RetOk.t; exact rfl)
  exact congrArg _ (word_or ⟨l0, u0⟩ ⟨l1, u1⟩ ⟨l2, u2⟩ ⟨l3, u3⟩)
theorem u32s_app (a b : List Int) : u32s (a ++ b) = u32s a ++ u32s b := by simp [u32s]
theorem u32s_one (a : List Int) : (u32s a).all Value.oneCell' = true := by rw [List.all_eq_true]; intro x hx; obtain ⟨y, _, rfl⟩ := List.mem_map.1 hx; rfl
theorem u32s_len (a : List Int) : (u32s a).length = a.length := by simp [u32s]
theorem arr_get {l : List Int} {zs : List Value} {k : Nat} (h : k < l.length) : (u32s l ++ zs)[0 + k * 1]? = some (.int .u32 (l.getD k 0)) := by
  rw [Nat.zero_add, Nat.mul_one, List.getElem?_append_left (by rw [u32s_len]; exact h)]
  simp [u32s, h]
theorem arr_put (l : List Int) (x : Int) (z : Value) {k : Nat} : setE (u32s l ++ List.replicate (k + 1) z) (0 + l.length * 1) [.int .u32 x] = some (u32s (l ++ [x]) ++ List.replicate k z) := by
  have := setE_mid (u32s l) (vs := [.int .u32 x]) (junk := List.replicate (k + 1) z) (by simp)
  rw [u32s_len] at this
  rw [Nat.zero_add, Nat.mul_one, this, u32s_app]
  rfl
theorem spread_ok (p : Option Addr) (n cap : Nat) (b : List Int) (hn : n = b.length) (hl : b.length = 64) (hcap : n ≤ cap) (hb : Byt b) (w : World) (hp : RdSl w p u8V b) : CallW Tryz.prog 270 [.slice p n cap] w fun v _ => v = .agg ⟨u32s (schedI b 64)⟩ := by
  refine enterW (tb := tb) Tryz.func270 rfl Tryz.ntmps270 rfl ?_
  repeat' (first | (apply R.is1; first | (apply R.pure; exact rfl; (apply Ok1.move; exact rfl)) | (apply R.alloc; (iterate 3 exact rfl); intro)) | apply R.nil | (apply T.is; first | apply T.seq | apply T.region | apply T.block))
  rename_i b2 b3
  apply T.loopK (α := Nat) (I := fun i => i ≤ 64) (σi := fun i => [(0, .slice p n cap), (2, .pointer (some ⟨b2, 0, none⟩)), (3, .pointer (some ⟨b3, 0, none⟩)), (9, .int .i64 i)]) (Li := fun i => [(b3, .cells ⟨u32s (schedI b i) ++ List.replicate (64 - i) (.int .u32 0)⟩ 53 (0, 0)), (b2, .cells ⟨List.replicate 64 (.int .u32 0)⟩ 53 (0, 0))]) (μ := fun i => 64 - i) (i0 := 0)
  · exact Nat.zero_le _
  · exact ⟨rfl, rfl, rfl, rfl, trivial⟩
  · (focus (repeat' first | exact Keep.nil _ | exact Ext.one _ _ | apply Keep.cons); done)
  · intro i hi
    have hsl := sched_len b i
    have hsn : schedI b (i + 1) = schedI b i ++ [nextI b (schedI b i)] := rfl
    have hnx : nextI b (schedI b i) = nextI b (schedI b i) := rfl
    conv at hnx => rhs; unfold nextI
    generalize hleq : schedI b i = l at *
    rcases Nat.lt_or_ge i 64 with hlt | hge
    · obtain ⟨k, hk⟩ : ∃ k, 64 - i = k + 1 := ⟨63 - i, by omega⟩
      have hput := fun x => arr_put l x (.int .u32 0) (k := k)
      rw [hsl] at hput
      rw [hk]
      rcases Nat.lt_or_ge i 16 with h16 | h16
      · rw [if_pos (by omega), hsl] at hnx
        have hwd : ∀ w1, Chg [] w w1 → CallW Tryz.prog 281 [.slice (sufP p cap (4 * i) 1) (n - 4 * i) (cap - 4 * i)] w1 fun v _ => v = .int .u32 (nextI b l) := by
          intro w1 hc
          have := word_ok (sufP p cap (4 * i) 1) (n - 4 * i) (cap - 4 * i) (b.drop (4 * i)) (by rw [List.length_drop, hn]) (by rw [List.length_drop]; omega) (fun x hx => hb x (List.mem_of_mem_drop hx)) w1 ((hp.suf u8V_len (by omega) (by omega)).chg hc (Off.nil _))
          rw [hnx]
          simpa only [List.getD_eq_getElem?_getD, List.getElem?_drop, Nat.add_zero] using this
        repeat' (first | (apply R.is1; first | (apply R.isBin; (apply R.pure; exact rfl; first | (apply Ok1.add64; exact rfl; exact rfl; omega; omega) | (apply Ok1.lss_t; exact rfl; exact rfl; omega) | (apply Ok1.mul64; exact rfl; exact rfl; omega; omega))) | (apply R.isCall; (apply R.callV; (iterate 3 exact rfl); intro w1 hw1; exact hwd w1 hw1.chg)) | (apply R.pure; exact rfl; first | (apply Ok1.sufR (i := 4 * i) (sz := 1); (iterate 6 exact rfl); omega; omega) | (apply Ok1.move; exact rfl) | (apply Ok1.assign; exact rfl) | (apply Ok1.indexAddrA; (iterate 5 exact rfl); omega; omega))) | (apply R.is0; (apply R.store; (iterate 6 exact rfl); exact Upd.head; exact hput _)) | apply R.nil | (apply T.is; first | apply T.seq | apply T.region | apply T.block | apply T.skip | apply T.exit | (apply T.cond_t; exact rfl)))
        refine ⟨i + 1, by omega, by omega, ⟨rfl, rfl, rfl, rfl, trivial⟩, ?_⟩
        rw [hsn, show 64 - (i + 1) = k by omega]
        (focus (repeat' first | exact Keep.nil _ | exact Ext.one _ _ | apply Keep.cons); done)
      · rw [if_neg (by omega), hsl] at hnx
        have e15 : ((i : Int) - 15).toNat = i - 15 := by omega
        have e2 : ((i : Int) - 2).toNat = i - 2 := by omega
        have e16 : ((i : Int) - 16).toNat = i - 16 := by omega
        have e7 : ((i : Int) - 7).toNat = i - 7 := by omega
        have g15 : (u32s l ++ List.replicate (k + 1) (.int .u32 0))[0 + ((i : Int) - 15).toNat * 1]? = some (.int .u32 (l.getD (i - 15) 0)) := by rw [e15]; exact arr_get (by omega)
        have g2 : (u32s l ++ List.replicate (k + 1) (.int .u32 0))[0 + ((i : Int) - 2).toNat * 1]? = some (.int .u32 (l.getD (i - 2) 0)) := by rw [e2]; exact arr_get (by omega)
        have g16 : (u32s l ++ List.replicate (k + 1) (.int .u32 0))[0 + ((i : Int) - 16).toNat * 1]? = some (.int .u32 (l.getD (i - 16) 0)) := by rw [e16]; exact arr_get (by omega)
        have g7 : (u32s l ++ List.replicate (k + 1) (.int .u32 0))[0 + ((i : Int) - 7).toNat * 1]? = some (.int .u32 (l.getD (i - 7) 0)) := by rw [e7]; exact arr_get (by omega)
        generalize l.getD (i - 15) 0 = x15 at *
        generalize l.getD (i - 2) 0 = x2 at *
        generalize l.getD (i - 16) 0 = x16 at *
        generalize l.getD (i - 7) 0 = x7 at *
        repeat' (first | (apply R.is1; first | (apply R.isBin; (apply R.pure; exact rfl; first | (apply Ok1.xorK; exact rfl; exact rfl) | (apply Ok1.add64; exact rfl; exact rfl; omega; omega) | (apply Ok1.lss_t; exact rfl; exact rfl; omega) | (apply Ok1.lss_f; exact rfl; exact rfl; omega) | (apply Ok1.shr; exact rfl; exact rfl; omega; exact Nat.le_of_ble_eq_true rfl; (first | exact pwE3 | exact rfl)))) | (apply R.isCall; first | apply R.callP rfl rfl rfl (rot_ok x15 (-7) 25 128 33554432 (by decide +kernel) (by decide) (by decide) rfl rfl) | apply R.callP rfl rfl rfl (rot_ok x15 (-18) 14 262144 16384 (by decide +kernel) (by decide) (by decide) rfl rfl) | apply R.callP rfl rfl rfl (rot_ok x2 (-17) 15 131072 32768 (by decide +kernel) (by decide) (by decide) rfl rfl) | apply R.callP rfl rfl rfl (rot_ok x2 (-19) 13 524288 8192 (by decide +kernel) (by decide) (by decide) rfl rfl)) | (apply R.pure; exact rfl; first | (apply Ok1.move; exact rfl) | (apply Ok1.assign; exact rfl))) | apply R.nil | (apply T.is; first | (apply T.drawC (id := 7) [0] (by decide); ((apply A.tk 0; exact rfl; kernel_rfl; (apply Ok1.move; exact rfl)) <;> (apply A.tk 1; exact rfl; kernel_rfl; (apply Ok1.sub64; exact rfl; exact rfl; omega; omega)) <;> (apply A.tk 2; exact rfl; kernel_rfl; (apply Ok1.indexAddrA; (iterate 5 exact rfl); omega; omega)) <;> (apply A.tk 3; exact rfl; kernel_rfl; (apply Ok1.load; exact rfl; apply Ld.own1; exact rfl; exact rfl; exact At.head; with_reducible (exact g15))) <;> (apply A.tk 4; exact rfl; kernel_rfl; (apply Ok1.move; exact rfl)) <;> (apply A.tk 5; exact rfl; kernel_rfl; (apply Ok1.sub64; exact rfl; exact rfl; omega; omega)) <;> (apply A.tk 6; exact rfl; kernel_rfl; (apply Ok1.indexAddrA; (iterate 5 exact rfl); omega; omega)) <;> (apply A.tk 7; exact rfl; kernel_rfl; (apply Ok1.load; exact rfl; apply Ld.own1; exact rfl; exact rfl; exact At.head; with_reducible (exact g2))) <;> (apply A.tk 8; exact rfl; kernel_rfl; (apply Ok1.assign; exact rfl)) <;> (apply A.tk 9; exact rfl; kernel_rfl; (apply Ok1.assign; exact rfl)) <;> (apply A.done; kernel_rfl))) | (apply T.drawC (id := 10) [] (by decide); ((apply A.tk 0; exact rfl; kernel_rfl; (apply Ok1.move; exact rfl)) <;> (apply A.tk 1; exact rfl; kernel_rfl; (apply Ok1.move; exact rfl)) <;> (apply A.tk 2; exact rfl; kernel_rfl; (apply Ok1.sub64; exact rfl; exact rfl; omega; omega)) <;> (apply A.tk 3; exact rfl; kernel_rfl; (apply Ok1.indexAddrA; (iterate 5 exact rfl); omega; omega)) <;> (apply A.tk 5; exact rfl; kernel_rfl; (apply Ok1.move; exact rfl)) <;> (apply A.tk 7; exact rfl; kernel_rfl; (apply Ok1.move; exact rfl)) <;> (apply A.tk 8; exact rfl; kernel_rfl; (apply Ok1.sub64; exact rfl; exact rfl; omega; omega)) <;> (apply A.tk 9; exact rfl; kernel_rfl; (apply Ok1.indexAddrA; (iterate 5 exact rfl); omega; omega)) <;> (apply A.tk 12; exact rfl; kernel_rfl; (apply Ok1.move; exact rfl)) <;> (apply A.two 4 10; kernel_rfl; exact rfl; exact rfl; rotate_left 1; (focus (((((apply R.pure; exact rfl; (apply Ok1.load; exact rfl; apply Ld.own1; exact rfl; exact rfl; exact At.head; with_reducible (exact g7))))); apply R.nil; refine ⟨?_, ?_⟩; (focus ((repeat' (exact trivial))))) <;> (apply A.one 4; kernel_rfl; exact rfl; (((apply R.pure; exact rfl; (apply Ok1.load; exact rfl; apply Ld.own1; exact rfl; exact rfl; exact At.head; with_reducible (exact g16))))); apply R.nil; refine ⟨?_, ?_⟩; (focus ((repeat' (exact trivial))))) <;> (apply A.tk 6; exact rfl; kernel_rfl; (apply Ok1.add32; exact rfl; exact rfl)) <;> (apply A.tk 11; exact rfl; kernel_rfl; (apply Ok1.add32; exact rfl; exact rfl)) <;> (apply A.tk 13; exact rfl; kernel_rfl; (apply Ok1.add32; exact rfl; exact rfl)) <;> (apply A.tk 14; exact rfl; kernel_rfl; (apply Ok1.indexAddrA; (iterate 5 exact rfl); omega; omega)) <;> (apply A.one 15; kernel_rfl; exact rfl; (((apply R.store; (iterate 6 exact rfl); exact Upd.head; exact hput _))); apply R.nil; refine ⟨?_, ?_⟩; (focus ((repeat' (exact trivial))))) <;> (apply A.done; kernel_rfl))); rotate_right 1; (focus (((((apply R.pure; exact rfl; (apply Ok1.load; exact rfl; apply Ld.own1; exact rfl; exact rfl; exact At.head; with_reducible (exact g16))))); apply R.nil; refine ⟨?_, ?_⟩; (focus ((repeat' (exact trivial))))) <;> (apply A.tk 6; exact rfl; kernel_rfl; (apply Ok1.add32; exact rfl; exact rfl)) <;> (apply A.one 10; kernel_rfl; exact rfl; (((apply R.pure; exact rfl; (apply Ok1.load; exact rfl; apply Ld.own1; exact rfl; exact rfl; exact At.head; with_reducible (exact g7))))); apply R.nil; refine ⟨?_, ?_⟩; (focus ((repeat' (exact trivial))))) <;> (apply A.tk 11; exact rfl; kernel_rfl; (apply Ok1.add32; exact rfl; exact rfl)) <;> (apply A.tk 13; exact rfl; kernel_rfl; (apply Ok1.add32; exact rfl; exact rfl)) <;> (apply A.tk 14; exact rfl; kernel_rfl; (apply Ok1.indexAddrA; (iterate 5 exact rfl); omega; omega)) <;> (apply A.one 15; kernel_rfl; exact rfl; (((apply R.store; (iterate 6 exact rfl); exact Upd.head; exact hput _))); apply R.nil; refine ⟨?_, ?_⟩; (focus ((repeat' (exact trivial))))) <;> (apply A.done; kernel_rfl)))))) | apply T.seq | apply T.region | apply T.block | apply T.skip | (apply T.cond_t; exact rfl) | (apply T.cond_f; exact rfl)))
        all_goals refine ⟨i + 1, by omega, by omega, ⟨rfl, rfl, rfl, rfl, trivial⟩, ?_⟩
        all_goals rw [hsn, hnx, show 64 - (i + 1) = k by omega]
        all_goals (focus (repeat' first | exact Keep.nil _ | exact Ext.one _ _ | apply Keep.cons); done)
    · have him : i = 64 := by omega
      subst him
      rw [Nat.sub_self, List.replicate_zero, List.append_nil]
      rw [hleq]
      have hls := u32s_len l
      rw [hsl] at hls
      have hsub := subE_all hls
      have hset : ∀ cs : List Value, cs.length = 64 → setE cs 0 (u32s l) = some (u32s l) := fun cs h => setE_all (by rw [hls, h])
      have hone := u32s_one l
      generalize u32s l = us at *
      repeat' (first | (apply R.is1; first | (apply R.isBin; (apply R.pure; exact rfl; (apply Ok1.lss_f; exact rfl; exact rfl; omega))) | (apply R.pure; exact rfl; (apply Ok1.load; exact rfl; apply Ld.ownk; exact rfl; exact rfl; exact At.head; exact hsub))) | (apply R.is0; (apply R.store; (iterate 4 exact rfl); exact hls; exact hone; (focus (repeat' first | exact Upd.head | apply Upd.tail); done); exact hset _ rfl)) | apply R.nil | (apply T.is; first | apply T.seq | apply T.region | apply T.exit | apply T.ret | (apply T.cond_f; exact rfl)))
      apply RetOk.c
      exact rfl
      apply Ld.ownk
      exact rfl
      exact rfl
      (focus (repeat' first | exact At.head | apply At.tail); done)
      exact hsub
      rfl
/-- What a block's rounds hold. -/
theorem mix_ok (r : Nat) (s : H8) (rest : List Value) (e : TypeId) (p : Option Addr) (n cap : Nat) (b : List Int) (hn : n = b.length) (hl : b.length = 64) (hcap : n ≤ cap) (hb : Byt b) (w : World) (hp : RdSl w p u8V b) (hoff : Off p [r]) :
    CallM Tryz.prog 251 [.pointer (some ⟨r, 0, none⟩), .slice p n cap] [(r, .cells ⟨s.v ++ rest⟩ e (0, 0))] w fun v L => v = .tuple #[] ∧ L = [(r, .cells ⟨(mixI kI b s).v ++ rest⟩ e (0, 0))] := by
  refine enterK (tb := tb) Tryz.func251 rfl Tryz.ntmps251 rfl ?_
  have hls := u32s_len (schedI b 64)
  have hsl := sched_len b 64
  rw [hsl] at hls
  have hset : ∀ cs : List Value, cs.length = 64 → setE cs 0 (u32s (schedI b 64)) = some (u32s (schedI b 64)) := fun cs h => setE_all (by rw [hls, h])
  have hgw : ∀ i, i < 64 → (u32s (schedI b 64))[0 + i * 1]? = some (.int .u32 ((schedI b 64).getD i 0)) := fun i hi => by have := arr_get (l := schedI b 64) (zs := []) (k := i) (by omega); rwa [List.append_nil] at this
  have hgk : ∀ i, i < 64 → (u32s kI)[0 + i * 1]? = some (.int .u32 (kI.getD i 0)) := fun i hi => by have := arr_get (l := kI) (zs := []) (k := i) (by rw [kI_len]; exact hi); rwa [List.append_nil] at this
  have hmix : mixI kI b s = addH s (roundsI kI (schedI b 64) s 64) := rfl
  have hr0 : roundsI kI (schedI b 64) s 0 = s := rfl
  have hrs : ∀ i, roundsI kI (schedI b 64) s (i + 1) = stepI (roundsI kI (schedI b 64) s i) (kI.getD i 0) ((schedI b 64).getD i 0) := fun _ => rfl
  have hset2 : ∀ cs : List Value, cs.length = 64 → setE cs 0 (u32s kI) = some (u32s kI) := fun cs h => setE_all (by rw [u32s_len, kI_len, h])
  have hspr : ∀ w1, Chg [r] w w1 → CallW Tryz.prog 270 [.slice p n cap] w1 fun v _ => v = .agg ⟨u32s (schedI b 64)⟩ := fun w1 hc => spread_ok p n cap b hn hl hcap hb w1 (hp.chg hc hoff)
  have htab := table_ok
  have hsv : subE (s.v ++ rest) 0 8 = some s.v := subE_app _ _ rfl
  have hset8 : ∀ cs : List Value, cs.length = 8 → setE cs 0 s.v = some s.v := fun cs h => setE_all (by rw [h]; rfl)
  have hone := u32s_one (schedI b 64)
  have hone2 := u32s_one kI
  have hkl : (u32s kI).length = 64 := by rw [u32s_len, kI_len]
  generalize hK : u32s kI = ks at *
  generalize roundsI kI (schedI b 64) s = rs at *
  generalize hW : u32s (schedI b 64) = us at *
  repeat' (first | (apply R.is1; first | (apply R.isCall; first | (apply R.callV; (iterate 3 exact rfl); intro w1 hw1; exact hspr w1 hw1.chg) | apply R.callP rfl rfl rfl htab) | (apply R.pure; exact rfl; first | (apply Ok1.load; exact rfl; apply Ld.ownk; exact rfl; exact rfl; (focus (repeat' first | exact At.head | apply At.tail); done); exact hsv) | (apply Ok1.move; exact rfl) | (apply Ok1.fieldAddr; (iterate 5 exact rfl)) | (apply Ok1.assign; exact rfl) | (apply Ok1.nilCheck; exact rfl)) | (apply R.alloc; (iterate 3 exact rfl); intro)) | (apply R.is0; first | (apply R.store; (iterate 4 exact rfl); exact hls; exact hone; (focus (repeat' first | exact Upd.head | apply Upd.tail); done); exact hset _ rfl) | (apply R.store; (iterate 4 exact rfl); exact hkl; exact hone2; exact Upd.head; exact hset2 _ rfl) | (apply R.store; (iterate 6 exact rfl); exact Upd.head; exact hset8 _ rfl)) | apply R.nil | (apply T.is; first | apply T.seq | apply T.region | apply T.block))
  rename_i b4 b5 b6
  apply T.loopK (α := Nat) (I := fun i => i ≤ 64) (σi := fun i => [(0, .pointer (some ⟨r, 0, none⟩)), (4, .pointer (some ⟨b4, 0, none⟩)), (5, .pointer (some ⟨b5, 0, none⟩)), (6, .pointer (some ⟨b6, 0, none⟩)), (7, .func (.func 272) #[] #[]), (19, .int .i64 i)])
    (Li := fun i => [(b6, .cells ⟨(rs i).v⟩ 54 (0, 0)), (b5, .cells ⟨ks⟩ 53 (0, 0)), (b4, .cells ⟨us⟩ 53 (0, 0)), (r, .cells ⟨s.v ++ rest⟩ e (0, 0))]) (μ := fun i => 64 - i) (i0 := 0)
  · exact Nat.zero_le _
  · exact ⟨rfl, rfl, rfl, rfl, rfl, rfl, trivial⟩
  · rw [hr0]; (focus (repeat' first | exact Keep.nil _ | exact Ext.one _ _ | apply Keep.cons); done)
  · intro i hi
    rcases Nat.lt_or_ge i 64 with hlt | hge
    · have g1 := hgk i hlt
      have g2 := hgw i hlt
      have hst := hrs i
      generalize kI.getD i 0 = ki at *
      generalize (schedI b 64).getD i 0 = wi at *
      generalize rs i = st at *
      repeat' (first | (apply R.is1; first | (apply R.isBin; (apply R.pure; exact rfl; first | (apply Ok1.add32; exact rfl; exact rfl) | (apply Ok1.add64; exact rfl; exact rfl; omega; omega) | (apply Ok1.lss_t; exact rfl; exact rfl; omega))) | (apply R.pure; exact rfl; first | (apply Ok1.move; exact rfl) | (apply Ok1.load; exact rfl; (apply Ld.own1; exact rfl; exact rfl; exact At.head; exact rfl)) | (apply Ok1.assign; exact rfl) | (apply Ok1.indexAddrA; (iterate 5 exact rfl); omega; omega) | (apply Ok1.buildA; (iterate 6 exact rfl)))) | (apply R.is0; (apply R.store; (iterate 6 exact rfl); exact Upd.head; exact setE_all rfl)) | apply R.nil | (apply T.is; first | (apply T.drawC (id := 6) [0,1,2] (by decide); (((apply A.tk 0; exact rfl; kernel_rfl; (apply Ok1.indexAddrA; (iterate 5 exact rfl); omega; omega)); refine A.cast (listed' := #[true, false, false, false, false, false, false, false, false, false, false, false, false, false, false, false, false, false, false, false, false, false, false, false, false, false, false, false, false]) (by kernel_rfl) ?_) <;> ((apply A.tk 1; exact rfl; kernel_rfl; (apply Ok1.load; exact rfl; (apply Ld.own1; exact rfl; exact rfl; exact At.head; exact rfl))); refine A.cast (listed' := #[true, true, false, false, false, false, false, false, false, false, false, false, false, false, false, false, false, false, false, false, false, false, false, false, false, false, false, false, false]) (by kernel_rfl) ?_) <;> ((apply A.tk 2; exact rfl; kernel_rfl; (apply Ok1.move; exact rfl)); refine A.cast (listed' := #[true, true, true, false, false, false, false, false, false, false, false, false, false, false, false, false, false, false, false, false, false, false, false, false, false, false, false, false, false]) (by kernel_rfl) ?_) <;> ((apply A.tk 3; exact rfl; kernel_rfl; (apply Ok1.indexAddrA; (iterate 5 exact rfl); omega; omega)); refine A.cast (listed' := #[true, true, true, true, false, false, false, false, false, false, false, false, false, false, false, false, false, false, false, false, false, false, false, false, false, false, false, false, false]) (by kernel_rfl) ?_) <;> ((apply A.tk 4; exact rfl; kernel_rfl; (apply Ok1.load; exact rfl; (apply Ld.own1; exact rfl; exact rfl; exact At.head; exact rfl))); refine A.cast (listed' := #[true, true, true, true, true, false, false, false, false, false, false, false, false, false, false, false, false, false, false, false, false, false, false, false, false, false, false, false, false]) (by kernel_rfl) ?_) <;> ((apply A.tk 7; exact rfl; kernel_rfl; (apply Ok1.indexAddrA; (iterate 5 exact rfl); omega; omega)); refine A.cast (listed' := #[true, true, true, true, true, false, false, true, false, false, false, false, false, false, false, false, false, false, false, false, false, false, false, false, false, false, false, false, false]) (by kernel_rfl) ?_) <;> ((apply A.tk 8; exact rfl; kernel_rfl; (apply Ok1.load; exact rfl; (apply Ld.own1; exact rfl; exact rfl; exact At.head; exact rfl))); refine A.cast (listed' := #[true, true, true, true, true, false, false, true, true, false, false, false, false, false, false, false, false, false, false, false, false, false, false, false, false, false, false, false, false]) (by kernel_rfl) ?_) <;> ((apply A.tk 9; exact rfl; kernel_rfl; (apply Ok1.indexAddrA; (iterate 5 exact rfl); omega; omega)); refine A.cast (listed' := #[true, true, true, true, true, false, false, true, true, true, false, false, false, false, false, false, false, false, false, false, false, false, false, false, false, false, false, false, false]) (by kernel_rfl) ?_) <;> ((apply A.tk 10; exact rfl; kernel_rfl; (apply Ok1.load; exact rfl; (apply Ld.own1; exact rfl; exact rfl; exact At.head; exact rfl))); refine A.cast (listed' := #[true, true, true, true, true, false, false, true, true, true, true, false, false, false, false, false, false, false, false, false, false, false, false, false, false, false, false, false, false]) (by kernel_rfl) ?_) <;> ((apply A.tk 11; exact rfl; kernel_rfl; (apply Ok1.andK; exact rfl; exact rfl)); refine A.cast (listed' := #[true, true, true, true, true, false, false, true, true, true, true, true, false, false, false, false, false, false, false, false, false, false, false, false, false, false, false, false, false]) (by kernel_rfl) ?_) <;> ((apply A.tk 12; exact rfl; kernel_rfl; (apply Ok1.indexAddrA; (iterate 5 exact rfl); omega; omega)); refine A.cast (listed' := #[true, true, true, true, true, false, false, true, true, true, true, true, true, false, false, false, false, false, false, false, false, false, false, false, false, false, false, false, false]) (by kernel_rfl) ?_) <;> ((apply A.tk 13; exact rfl; kernel_rfl; (apply Ok1.load; exact rfl; (apply Ld.own1; exact rfl; exact rfl; exact At.head; exact rfl))); refine A.cast (listed' := #[true, true, true, true, true, false, false, true, true, true, true, true, true, true, false, false, false, false, false, false, false, false, false, false, false, false, false, false, false]) (by kernel_rfl) ?_) <;> ((apply A.tk 14; exact rfl; kernel_rfl; (apply Ok1.cplK; exact rfl; exact rfl)); refine A.cast (listed' := #[true, true, true, true, true, false, false, true, true, true, true, true, true, true, true, false, false, false, false, false, false, false, false, false, false, false, false, false, false]) (by kernel_rfl) ?_) <;> ((apply A.tk 15; exact rfl; kernel_rfl; (apply Ok1.indexAddrA; (iterate 5 exact rfl); omega; omega)); refine A.cast (listed' := #[true, true, true, true, true, false, false, true, true, true, true, true, true, true, true, true, false, false, false, false, false, false, false, false, false, false, false, false, false]) (by kernel_rfl) ?_) <;> ((apply A.tk 16; exact rfl; kernel_rfl; (apply Ok1.load; exact rfl; (apply Ld.own1; exact rfl; exact rfl; exact At.head; exact rfl))); refine A.cast (listed' := #[true, true, true, true, true, false, false, true, true, true, true, true, true, true, true, true, true, false, false, false, false, false, false, false, false, false, false, false, false]) (by kernel_rfl) ?_) <;> ((apply A.tk 17; exact rfl; kernel_rfl; (apply Ok1.andK; exact rfl; exact rfl)); refine A.cast (listed' := #[true, true, true, true, true, false, false, true, true, true, true, true, true, true, true, true, true, true, false, false, false, false, false, false, false, false, false, false, false]) (by kernel_rfl) ?_) <;> ((apply A.tk 18; exact rfl; kernel_rfl; (apply Ok1.xorK; exact rfl; exact rfl)); refine A.cast (listed' := #[true, true, true, true, true, false, false, true, true, true, true, true, true, true, true, true, true, true, true, false, false, false, false, false, false, false, false, false, false]) (by kernel_rfl) ?_) <;> ((apply A.tk 20; exact rfl; kernel_rfl; (apply Ok1.move; exact rfl)); refine A.cast (listed' := #[true, true, true, true, true, false, false, true, true, true, true, true, true, true, true, true, true, true, true, false, true, false, false, false, false, false, false, false, false]) (by kernel_rfl) ?_) <;> ((apply A.tk 21; exact rfl; kernel_rfl; (apply Ok1.indexAddrA; (iterate 5 exact rfl); omega; omega)); refine A.cast (listed' := #[true, true, true, true, true, false, false, true, true, true, true, true, true, true, true, true, true, true, true, false, true, true, false, false, false, false, false, false, false]) (by kernel_rfl) ?_) <;> ((apply A.tk 22; exact rfl; kernel_rfl; (apply Ok1.load; exact rfl; apply Ld.own1; exact rfl; exact rfl; (focus (repeat' first | exact At.head | apply At.tail); done); exact g1)); refine A.cast (listed' := #[true, true, true, true, true, false, false, true, true, true, true, true, true, true, true, true, true, true, true, false, true, true, true, false, false, false, false, false, false]) (by kernel_rfl) ?_) <;> ((apply A.tk 24; exact rfl; kernel_rfl; (apply Ok1.move; exact rfl)); refine A.cast (listed' := #[true, true, true, true, true, false, false, true, true, true, true, true, true, true, true, true, true, true, true, false, true, true, true, false, true, false, false, false, false]) (by kernel_rfl) ?_) <;> ((apply A.tk 25; exact rfl; kernel_rfl; (apply Ok1.indexAddrA; (iterate 5 exact rfl); omega; omega)); refine A.cast (listed' := #[true, true, true, true, true, false, false, true, true, true, true, true, true, true, true, true, true, true, true, false, true, true, true, false, true, true, false, false, false]) (by kernel_rfl) ?_) <;> ((apply A.tk 26; exact rfl; kernel_rfl; (apply Ok1.load; exact rfl; apply Ld.own1; exact rfl; exact rfl; (focus (repeat' first | exact At.head | apply At.tail); done); exact g2)); refine A.cast (listed' := #[true, true, true, true, true, false, false, true, true, true, true, true, true, true, true, true, true, true, true, false, true, true, true, false, true, true, true, false, false]) (by kernel_rfl) ?_) <;> (apply A.one 5; kernel_rfl; exact rfl; (((apply R.callFP (fa := []) (cb := []); (iterate 4 exact rfl); exact turnedA_ok _))); apply R.nil; refine ⟨?_, ?_⟩; (focus (repeat' first | exact trivial | exact At.head | apply At.tail | refine ⟨?_, ?_⟩))) <;> ((apply A.tk 6; exact rfl; kernel_rfl; (apply Ok1.add32; exact rfl; exact rfl)); refine A.cast (listed' := #[true, true, true, true, true, true, true, true, true, true, true, true, true, true, true, true, true, true, true, false, true, true, true, false, true, true, true, false, false]) (by kernel_rfl) ?_) <;> ((apply A.tk 19; exact rfl; kernel_rfl; (apply Ok1.add32; exact rfl; exact rfl)); refine A.cast (listed' := #[true, true, true, true, true, true, true, true, true, true, true, true, true, true, true, true, true, true, true, true, true, true, true, false, true, true, true, false, false]) (by kernel_rfl) ?_) <;> ((apply A.tk 23; exact rfl; kernel_rfl; (apply Ok1.add32; exact rfl; exact rfl)); refine A.cast (listed' := #[true, true, true, true, true, true, true, true, true, true, true, true, true, true, true, true, true, true, true, true, true, true, true, true, true, true, true, false, false]) (by kernel_rfl) ?_) <;> ((apply A.tk 27; exact rfl; kernel_rfl; (apply Ok1.add32; exact rfl; exact rfl)); refine A.cast (listed' := #[true, true, true, true, true, true, true, true, true, true, true, true, true, true, true, true, true, true, true, true, true, true, true, true, true, true, true, true, false]) (by kernel_rfl) ?_) <;> ((apply A.tk 28; exact rfl; kernel_rfl; (apply Ok1.assign; exact rfl)); refine A.cast (listed' := #[true, true, true, true, true, true, true, true, true, true, true, true, true, true, true, true, true, true, true, true, true, true, true, true, true, true, true, true, true]) (by kernel_rfl) ?_) <;> (apply A.done; kernel_rfl))) | (apply T.drawC (id := 7) [0,1,2] (by decide); ((apply A.tk 0; exact rfl; kernel_rfl; (apply Ok1.move; exact rfl)) <;> (apply A.tk 1; exact rfl; kernel_rfl; (apply Ok1.indexAddrA; (iterate 5 exact rfl); omega; omega)) <;> (apply A.tk 2; exact rfl; kernel_rfl; (apply Ok1.load; exact rfl; (apply Ld.own1; exact rfl; exact rfl; exact At.head; exact rfl))) <;> (apply A.tk 4; exact rfl; kernel_rfl; (apply Ok1.indexAddrA; (iterate 5 exact rfl); omega; omega)) <;> (apply A.tk 5; exact rfl; kernel_rfl; (apply Ok1.load; exact rfl; (apply Ld.own1; exact rfl; exact rfl; exact At.head; exact rfl))) <;> (apply A.tk 6; exact rfl; kernel_rfl; (apply Ok1.indexAddrA; (iterate 5 exact rfl); omega; omega)) <;> (apply A.tk 7; exact rfl; kernel_rfl; (apply Ok1.load; exact rfl; (apply Ld.own1; exact rfl; exact rfl; exact At.head; exact rfl))) <;> (apply A.tk 8; exact rfl; kernel_rfl; (apply Ok1.andK; exact rfl; exact rfl)) <;> (apply A.tk 9; exact rfl; kernel_rfl; (apply Ok1.indexAddrA; (iterate 5 exact rfl); omega; omega)) <;> (apply A.tk 10; exact rfl; kernel_rfl; (apply Ok1.load; exact rfl; (apply Ld.own1; exact rfl; exact rfl; exact At.head; exact rfl))) <;> (apply A.tk 11; exact rfl; kernel_rfl; (apply Ok1.indexAddrA; (iterate 5 exact rfl); omega; omega)) <;> (apply A.tk 12; exact rfl; kernel_rfl; (apply Ok1.load; exact rfl; (apply Ld.own1; exact rfl; exact rfl; exact At.head; exact rfl))) <;> (apply A.tk 13; exact rfl; kernel_rfl; (apply Ok1.andK; exact rfl; exact rfl)) <;> (apply A.tk 14; exact rfl; kernel_rfl; (apply Ok1.xorK; exact rfl; exact rfl)) <;> (apply A.tk 15; exact rfl; kernel_rfl; (apply Ok1.indexAddrA; (iterate 5 exact rfl); omega; omega)) <;> (apply A.tk 16; exact rfl; kernel_rfl; (apply Ok1.load; exact rfl; (apply Ld.own1; exact rfl; exact rfl; exact At.head; exact rfl))) <;> (apply A.tk 17; exact rfl; kernel_rfl; (apply Ok1.indexAddrA; (iterate 5 exact rfl); omega; omega)) <;> (apply A.tk 18; exact rfl; kernel_rfl; (apply Ok1.load; exact rfl; (apply Ld.own1; exact rfl; exact rfl; exact At.head; exact rfl))) <;> (apply A.tk 19; exact rfl; kernel_rfl; (apply Ok1.andK; exact rfl; exact rfl)) <;> (apply A.tk 20; exact rfl; kernel_rfl; (apply Ok1.xorK; exact rfl; exact rfl)) <;> (apply A.one 3; kernel_rfl; exact rfl; (((apply R.callFP (fa := []) (cb := []); (iterate 4 exact rfl); exact turnedB_ok _))); apply R.nil; refine ⟨?_, ?_⟩; (focus (repeat' first | exact trivial | exact At.head | apply At.tail | refine ⟨?_, ?_⟩))) <;> (apply A.tk 21; exact rfl; kernel_rfl; (apply Ok1.add32; exact rfl; exact rfl)) <;> (apply A.tk 22; exact rfl; kernel_rfl; (apply Ok1.assign; exact rfl)) <;> (apply A.done; kernel_rfl))) | apply T.seq | apply T.region | apply T.block | apply T.skip | (apply T.cond_t; exact rfl)))
      refine ⟨i + 1, by omega, by omega, ⟨rfl, rfl, rfl, rfl, rfl, rfl, trivial⟩, ?_⟩
      rw [hst]
      (focus (repeat' first | exact Keep.nil _ | exact Ext.one _ _ | apply Keep.cons); done)
    · have him : i = 64 := by omega
      subst him
      rw [hmix]
      generalize rs 64 = t at *
      clear hset hset2 hgk hgw hspr
      simp only [H8.v, H8.l, u32s, List.map_cons, List.map_nil, List.cons_append, List.nil_append]
      repeat' (first | (apply R.is1; first | (apply R.isBin; (apply R.pure; exact rfl; first | (apply Ok1.add64; exact rfl; exact rfl; omega; omega) | (apply Ok1.lss_t; exact rfl; exact rfl; omega) | (apply Ok1.lss_f; exact rfl; exact rfl; omega))) | (apply R.pure; exact rfl; first | (apply Ok1.move; exact rfl) | (apply Ok1.assign; exact rfl))) | apply R.nil | (apply T.is; first | apply T.rounds 9 | (apply T.drawC (id := 13) [0] (by decide); ((apply A.tk 0; exact rfl; kernel_rfl; (apply Ok1.move; exact rfl)) <;> (apply A.tk 1; exact rfl; kernel_rfl; (apply Ok1.move; exact rfl)) <;> (apply A.tk 2; exact rfl; kernel_rfl; (apply Ok1.nilCheck; exact rfl)) <;> (apply A.tk 3; exact rfl; kernel_rfl; (apply Ok1.fieldAddr; (iterate 5 exact rfl))) <;> (apply A.tk 4; exact rfl; kernel_rfl; (apply Ok1.indexAddrA; (iterate 5 exact rfl); omega; omega)) <;> (apply A.tk 6; exact rfl; kernel_rfl; (apply Ok1.move; exact rfl)) <;> (apply A.tk 7; exact rfl; kernel_rfl; (apply Ok1.indexAddrA; (iterate 5 exact rfl); omega; omega)) <;> (apply A.tk 8; exact rfl; kernel_rfl; (apply Ok1.load; exact rfl; (apply Ld.own1; exact rfl; exact rfl; exact At.head; exact rfl))) <;> (apply A.tk 10; exact rfl; kernel_rfl; (apply Ok1.nilCheck; exact rfl)) <;> (apply A.tk 11; exact rfl; kernel_rfl; (apply Ok1.fieldAddr; (iterate 5 exact rfl))) <;> (apply A.one 5; kernel_rfl; exact rfl; (((apply R.pure; exact rfl; (apply Ok1.load; exact rfl; (apply Ld.own1; exact rfl; exact rfl; (focus (repeat' first | exact At.head | apply At.tail); done); exact rfl))))); apply R.nil; refine ⟨?_, ?_⟩; (focus ((repeat' (first | exact trivial | (refine ⟨?_, ?_⟩; exact At.head)))))) <;> (apply A.tk 9; exact rfl; kernel_rfl; (apply Ok1.add32; exact rfl; exact rfl)) <;> (apply A.tk 12; exact rfl; kernel_rfl; (apply Ok1.indexAddrA; (iterate 5 exact rfl); omega; omega)) <;> (apply A.one 13; kernel_rfl; exact rfl; ((first | (apply R.store; (iterate 6 exact rfl); (focus (repeat' first | exact Upd.head | apply Upd.tail); done); exact rfl) | (apply R.store; (iterate 6 exact rfl); (focus (repeat' first | exact Upd.head | apply Upd.tail); done); exact setE_one (by simp only [List.length_cons]; omega)))); apply R.nil; refine ⟨?_, ?_⟩; (focus ((repeat' (first | exact trivial | (refine ⟨?_, ?_⟩; exact At.head)))))) <;> (apply A.done; kernel_rfl))) | apply T.seq | apply T.region | apply T.block | apply T.skip | apply T.exit | (apply T.cond_t; exact rfl) | (apply T.cond_f; exact rfl)))
      all_goals (apply RetOk.n)
      all_goals refine ⟨_, ?_, rfl, rfl⟩
      all_goals (focus (repeat' first | exact Keep.nil _ | exact Ext.one _ _ | apply Keep.cons | apply Ext.cons); done)
theorem u8s_app (a b : List Int) : u8s (a ++ b) = u8s a ++ u8s b := by simp [u8s]
theorem u8s_len (a : List Int) : (u8s a).length = a.length := by simp [u8s]
theorem u8s_one (a : List Int) : (u8s a).all Value.oneCell' = true := by rw [List.all_eq_true]; intro x hx; obtain ⟨y, _, rfl⟩ := List.mem_map.1 hx; rfl
theorem Byt.app {a b : List Int} (h1 : Byt a) (h2 : Byt b) : Byt (a ++ b) := fun x hx => by rcases List.mem_append.1 hx with h | h; exact h1 x h; exact h2 x h
theorem Byt.drop {a : List Int} (h : Byt a) (i : Nat) : Byt (a.drop i) := fun x hx => h x (List.mem_of_mem_drop hx)
theorem Byt.take {a : List Int} (h : Byt a) (i : Nat) : Byt (a.take i) := fun x hx => h x (List.mem_of_mem_take hx)
/-- p' reads as p does, from k on. -/
structure Sfx (p p' : Option Addr) (n k : Nat) : Prop where
  rd : ∀ (W : World) (xs : List Int), xs.length = n → RdSl W p u8V xs → RdSl W p' u8V (xs.drop k)
  off : ∀ S, Off p S → Off p' S
theorem Sfx.refl (p : Option Addr) (n : Nat) : Sfx p p n 0 := ⟨fun W xs _ h => h, fun _ h => h⟩
theorem Sfx.suf {p p' : Option Addr} {n k c i : Nat} (h : Sfx p p' n k) (h1 : k + i ≤ n) (h2 : n - k ≤ c) : Sfx p (sufP p' c i 1) n (k + i) :=
  ⟨fun W xs hl hp => by
    have := (h.rd W xs hl hp).suf u8V_len (cap := c) (i := i) (by rw [List.length_drop]; omega) (by rw [List.length_drop]; omega)
    rwa [List.drop_drop] at this, fun S ho => (h.off S ho).suf _ _ _⟩
theorem allI_step (b : List Int) (s : H8) {i : Nat} (h : 64 * i + 64 ≤ b.length) : allI kI (i + 1) b s = mixI kI ((b.drop (64 * i)).take 64) (allI kI i b s) := by
  induction i generalizing b s with
  | zero => rfl
  | succ i ih =>
    rw [allI, ih (b.drop 64) (mixI kI (b.take 64) s) (by rw [List.length_drop]; omega), List.drop_drop, show 64 + 64 * i = 64 * (i + 1) by omega]
    rfl
theorem all_ok (r : Nat) (s : H8) (rest : List Value) (e : TypeId) (p : Option Addr) (n cap : Nat) (b : List Int) (hn : n = b.length) (hcap : n ≤ cap) (hbig : n ≤ 1073741824) (hb : Byt b) (w : World) (hp : RdSl w p u8V b) (hoff : Off p [r]) :
    CallM Tryz.prog 211 [.pointer (some ⟨r, 0, none⟩), .slice p n cap] [(r, .cells ⟨s.v ++ rest⟩ e (0, 0))] w fun v L => ∃ p' cap', v = .slice p' (n - 64 * (n / 64)) cap' ∧ n - 64 * (n / 64) ≤ cap' ∧ Sfx p p' n (64 * (n / 64)) ∧ L = [(r, .cells ⟨(allI kI (n / 64) b s).v ++ rest⟩ e (0, 0))] := by
  refine enterK (tb := tb) Tryz.func211 rfl Tryz.ntmps211 rfl ?_
  repeat' (first | (apply R.is1; (apply R.pure; exact rfl; (apply Ok1.assign; exact rfl))) | apply R.nil | (apply T.is; first | apply T.seq | apply T.region | apply T.block))
  apply T.loopK (α := Nat × Option Addr × Nat) (I := fun x => 64 * x.1 ≤ n ∧ n - 64 * x.1 ≤ x.2.2 ∧ Sfx p x.2.1 n (64 * x.1)) (σi := fun x => [(0, .pointer (some ⟨r, 0, none⟩)), (1, .slice x.2.1 (n - 64 * x.1) x.2.2)]) (Li := fun x => [(r, .cells ⟨(allI kI x.1 b s).v ++ rest⟩ e (0, 0))]) (μ := fun x => n - 64 * x.1) (i0 := (0, p, cap))
  · exact ⟨by omega, by simpa using hcap, Sfx.refl p n⟩
  · exact ⟨rfl, rfl, trivial⟩
  · (focus (repeat' first | exact Keep.nil _ | exact Ext.one _ _ | apply Keep.cons); done)
  · rintro ⟨i, p1, c1⟩ ⟨hi, hc, hs⟩
    simp only at hi hc hs ⊢
    by_cases hlt : 64 * i + 64 ≤ n
    · have hst := allI_step b s (i := i) (by omega)
      have hmix : ∀ w1, Chg [r] w w1 → CallM Tryz.prog 251 [.pointer (some ⟨r, 0, none⟩), .slice p1 64 c1] [(r, .cells ⟨(allI kI i b s).v ++ rest⟩ e (0, 0))] w1 fun v L => v = .tuple #[] ∧ L = [(r, .cells ⟨(allI kI (i + 1) b s).v ++ rest⟩ e (0, 0))] := by
        intro w1 hch
        rw [hst]
        have hrd := (hs.rd w1 b hn.symm (hp.chg hch hoff)).pre u8V_len 64
        exact mix_ok r _ rest e p1 64 c1 ((b.drop (64 * i)).take 64) (by rw [List.length_take, List.length_drop]; omega) (by rw [List.length_take, List.length_drop]; omega) (by omega) ((hb.drop _).take _) w1 hrd (hs.off _ hoff)
      have hnew : Sfx p (sufP p1 c1 64 1) n (64 * i + 64) := hs.suf (by omega) (by omega)
      repeat' (first | (apply R.is1; first | (apply R.isBin; (apply R.pure; exact rfl; (apply Ok1.geq_t; exact rfl; exact rfl; omega))) | (apply R.isCall; first | (apply R.callE; (iterate 3 exact rfl); exact Ext.all _; intro w1 hw1; exact hmix w1 hw1.chg; rintro v Lo ⟨rfl, rfl⟩) | (apply R.pure; exact rfl; (apply Ok1.lenS; (iterate 3 exact rfl)))) | (apply R.pure; exact rfl; first | (apply Ok1.preR (i := 64); (iterate 5 exact rfl); omega) | (apply Ok1.sufR (i := 64) (sz := 1); (iterate 6 exact rfl); omega; omega) | (apply Ok1.move; exact rfl) | (apply Ok1.assign; exact rfl))) | apply R.nil | (apply T.is; first | apply T.seq | apply T.region | apply T.block | apply T.skip | (apply T.cond_t; exact rfl)))
      refine ⟨(i + 1, sufP p1 c1 64 1, c1 - 64), ⟨by simp only; omega, by simp only; omega, hnew⟩, by simp only; omega, ⟨rfl, ?_, trivial⟩, by (focus (repeat' first | exact Keep.nil _ | exact Ext.one _ _ | apply Keep.cons); done)⟩
      rw [show n - 64 * (i + 1) = n - 64 * i - 64 by omega]
      rfl
    · have hdiv : n / 64 = i := by omega
      repeat' (first | (apply R.is1; first | (apply R.isBin; (apply R.pure; exact rfl; (apply Ok1.geq_f; exact rfl; exact rfl; omega))) | (apply R.isCall; (apply R.pure; exact rfl; (apply Ok1.lenS; (iterate 3 exact rfl)))) | (apply R.pure; exact rfl; first | (apply Ok1.move; exact rfl) | (apply Ok1.assign; exact rfl))) | apply R.nil | (apply T.is; first | apply T.seq | apply T.region | apply T.exit | apply T.ret | (apply T.cond_f; exact rfl)))
      (apply RetOk.t; exact rfl)
      refine ⟨_, ?_, p1, c1, by rw [hdiv], by rw [hdiv]; exact hc, by rw [hdiv]; exact hs, rfl⟩
      rw [hdiv]
      (focus (repeat' first | exact Keep.nil _ | exact Ext.one _ _ | apply Keep.cons); done)
theorem u8_mod (i : Int) : IntKind.u8.wrap i = i % 256 := by simp [IntKind.wrap, IntKind.bits, IntKind.signed]
theorem out_ok (r : Nat) (s : H8) (rest : List Value) (e : TypeId) (fz : Nat × Nat) (w : World) (hb : w.heap[r]? = some (.cells ⟨s.v ++ rest⟩ e fz)) : CallW Tryz.prog 214 [.pointer (some ⟨r, 0, none⟩)] w fun v _ => v = .agg ⟨u8s (outI s)⟩ := by
  have hsv : subE (s.v ++ rest) 0 8 = some s.v := subE_app _ _ rfl
  refine enterW (tb := tb) Tryz.func214 rfl Tryz.ntmps214 rfl ?_
  repeat' (first | (apply R.is1; first | (apply R.pure; exact rfl; first | (apply Ok1.load; exact rfl; apply Ld.blkk; exact rfl; exact rfl; exact hb; exact List.not_mem_nil; exact hsv) | (apply Ok1.move; exact rfl) | (apply Ok1.fieldAddr; (iterate 5 exact rfl)) | (apply Ok1.nilCheck; exact rfl)) | (apply R.alloc; (iterate 3 exact rfl); intro)) | apply R.nil | (apply T.is; first | apply T.seq | apply T.region | apply T.block))
  simp only [H8.v, H8.l, u32s, List.map_cons, List.map_nil]
  repeat' (first | (apply R.is1; first | (apply R.isBin; (apply R.pure; exact rfl; first | (apply Ok1.add64; exact rfl; exact rfl; omega; omega) | (apply Ok1.lss_t; exact rfl; exact rfl; omega) | (apply Ok1.lss_f; exact rfl; exact rfl; omega) | (apply Ok1.mul64; exact rfl; exact rfl; omega; omega) | (apply Ok1.shr; exact rfl; exact rfl; omega; exact Nat.le_of_ble_eq_true rfl; (first | exact pwE8 | exact pwE16 | exact pwE24)))) | (apply R.pure; exact rfl; first | (apply Ok1.move; exact rfl) | (apply Ok1.load; exact rfl; (apply Ld.ownk; exact rfl; exact rfl; exact At.head; exact rfl)) | (apply Ok1.assign; exact rfl) | (apply Ok1.indexAddrA; (iterate 5 exact rfl); omega; omega) | (apply Ok1.index1; (iterate 6 exact rfl); omega; omega; exact rfl) | (apply Ok1.conv; (iterate 5 exact rfl)))) | (apply R.is0; (apply R.store; (iterate 6 exact rfl); (focus (repeat' first | exact Upd.head | apply Upd.tail); done); exact rfl)) | apply R.nil | (apply T.is; first | apply T.rounds 9 | apply T.seq | apply T.region | apply T.block | apply T.skip | apply T.exit | apply T.ret | (apply T.cond_t; exact rfl) | (apply T.cond_f; exact rfl)))
  (apply RetOk.c; exact rfl; ((apply Ld.ownk; exact rfl; exact rfl; (focus (repeat' first | exact At.head | apply At.tail); done); exact rfl)))
  simp only [u8_mod]
  rfl
theorem rdnone {n : Nat} {xs : List Int} {w : World} (hn : n = xs.length) (h : RdSl w none u8V xs) : n = 0 := by
  rcases h with h | ⟨b, o, h, _⟩
  · rw [hn, h]; rfl
  · cases h
theorem clone_ok (p : Option Addr) (n cap : Nat) (xs : List Int) (hn : n = xs.length) (hbig : n ≤ 1000000000) (w : World) (hp : RdSl w p u8V xs) : CallM Tryz.prog 98 [.slice p n cap] [] w fun v L => ∃ ov, OvOk 1 ov n (u8s xs) ∧ ov.isSome = p.isSome ∧ v = slV ov n ∧ L = blkL 5 ov (u8s xs) := by
  refine enterK (tb := tb) Tryz.func98 rfl Tryz.ntmps98 rfl ?_
  cases p with
  | none =>
    have h0 := rdnone hn hp
    have hx : xs = [] := List.eq_nil_of_length_eq_zero (by omega)
    subst hx
    repeat' (first | (apply R.is1; first | (apply R.isBin; (apply R.pure; exact rfl; (apply Ok1.eqlS; (iterate 5 exact rfl)))) | (apply R.pure; exact rfl; first | (apply Ok1.move; exact rfl) | (apply Ok1.assign; exact rfl))) | apply R.nil | (apply T.is; first | apply T.seq | apply T.region | apply T.ret | (apply T.cond_t; exact rfl)))
    (apply RetOk.t; exact rfl)
    exact ⟨_, by (focus ((repeat' (exact Keep.nil _)); done)), none, by rw [h0]; exact OvOk.start 1, rfl, rfl, rfl⟩
  | some a =>
    repeat' (first | (apply R.is1; first | (apply R.buildSlice0; (iterate 4 exact rfl); intro b0) | (apply R.isBin; (apply R.pure; exact rfl; (apply Ok1.eqlS; (iterate 5 exact rfl)))) | (apply R.isCall; (apply R.appendRd (xs := xs) (v := u8V) (sz := 1) (ov := some (b0, 0, [])) (n := 0) (old := []); (iterate 12 exact rfl); exact ⟨rfl, rfl⟩; (focus ((repeat' (exact Ext.one _ _)); done)); exact hn; exact u8V_len; exact rfl; (intro w1 hw1; exact hp.chg hw1.chg (Off.nil _)); (focus (rw [fl_u8]; exact u8s_one xs)); omega; intro ov1 hov1 hsome)) | (apply R.pure; exact rfl; first | (apply Ok1.move; exact rfl) | (apply Ok1.assign; exact rfl))) | apply R.nil | (apply T.is; first | apply T.seq | apply T.region | apply T.skip | apply T.ret | (apply T.cond_f; exact rfl)))
    rw [Nat.zero_add, List.nil_append, fl_u8] at hov1
    rw [Nat.zero_add, List.nil_append, fl_u8]
    repeat' (fail)
    (apply RetOk.t; exact rfl)
    refine ⟨_, ?_, ov1, hov1, by rw [hsome rfl]; rfl, rfl, rfl⟩
    (focus (repeat' first | exact Ext.here _ _ | apply Keep.last); done)
theorem grow_ok (n : Nat) (hbig : n ≤ 1000000000) (w : World) : CallM Tryz.prog 146 [.slice none 0 0, .int .i64 n] [] w fun v L => ∃ ov, OvOk 1 ov 0 [] ∧ v = slV ov 0 ∧ L = blkL 5 ov [] := by
  refine enterK (tb := tb) Tryz.func146 rfl Tryz.ntmps146 rfl ?_
  rcases Nat.eq_zero_or_pos n with h0 | h0
  · subst h0
    repeat' (first | (apply R.is1; first | (apply R.isBin; (apply R.pure; exact rfl; first | (apply Ok1.sub64; exact rfl; exact rfl; omega; omega) | (apply Ok1.lss_f; exact rfl; exact rfl; omega) | (apply Ok1.gtr_f; exact rfl; exact rfl; omega))) | (apply R.isCall; (apply R.pure; exact rfl; (apply Ok1.lenS; (iterate 3 exact rfl)))) | (apply R.pure; exact rfl; first | (apply Ok1.capS; (iterate 3 exact rfl)) | (apply Ok1.move; exact rfl) | (apply Ok1.assign; exact rfl))) | apply R.nil | (apply T.is; first | apply T.seq | apply T.region | apply T.skip | apply T.ret | (apply T.cond_f; exact rfl)))
    (apply RetOk.t; exact rfl)
    exact ⟨_, by (focus ((repeat' (exact Keep.nil _)); done)), none, OvOk.start 1, rfl, rfl⟩
  · repeat' (first | (apply R.is1; first | (apply R.isBin; (apply R.pure; exact rfl; first | (apply Ok1.sub64; exact rfl; exact rfl; omega; omega) | (apply Ok1.lss_f; exact rfl; exact rfl; omega) | (apply Ok1.gtr_t; exact rfl; exact rfl; omega))) | (apply R.isCall; first | (apply R.growMk (n := n); (iterate 12 exact rfl); omega; omega; intro b0 j0) | (apply R.pure; exact rfl; (apply Ok1.lenS; (iterate 3 exact rfl)))) | (apply R.pure; exact rfl; first | (apply Ok1.capS; (iterate 3 exact rfl)) | (apply Ok1.move; exact rfl) | (apply Ok1.assign; exact rfl) | (apply Ok1.slice0; (iterate 7 exact rfl); (refine ⟨?_, ?_, ?_⟩ <;> omega); (exact Or.inl rfl)) | (apply Ok1.sliceTo; (iterate 6 exact rfl); omega; omega; omega; (exact Or.inl rfl)))) | apply R.nil | (apply T.is; first | apply T.seq | apply T.region | apply T.skip | apply T.ret | (apply T.cond_t; exact rfl) | (apply T.cond_f; exact rfl)))
    (apply RetOk.t; exact rfl)
    refine ⟨_, ?_, some (b0, n + j0, List.replicate (n + j0) (.int .u8 0)), ⟨rfl, by simp⟩, by simp [slV]; omega, rfl⟩
    simp only [blkL, List.nil_append]
    (focus (repeat' first | exact Keep.nil _ | exact Ext.one _ _ | apply Keep.cons); done)
/-- A part: a slice of bytes. -/
structure Pt where
  p : Option Addr
  cap : Nat
  xs : List Int
deriving Inhabited
def Pt.v (x : Pt) : List Value := [.slice x.p x.xs.length x.cap]
theorem Pt.v_len (x : Pt) : x.v.length = 1 := rfl
def cat (ps : List Pt) : List Int := ps.flatMap (·.xs)
theorem cat_nil : cat [] = [] := rfl
theorem cat_snoc {ps : List Pt} {i : Nat} {x : Pt} (h : ps[i]? = some x) : cat (ps.take (i + 1)) = cat (ps.take i) ++ x.xs := by
  unfold cat
  rw [List.take_add_one, h, List.flatMap_append]
  simp
theorem cat_le (ps : List Pt) (i : Nat) : (cat (ps.take i)).length ≤ (cat ps).length := by
  conv => rhs; rw [← List.take_append_drop i ps]
  unfold cat
  rw [List.flatMap_append, List.length_append]
  omega
theorem concat_ok (p : Option Addr) (n cap : Nat) (ps : List Pt) (hn : n = ps.length) (hbig : (cat ps).length ≤ 1000000000) (hbig2 : n ≤ 1000000000) (w : World) (hp : RdSl w p Pt.v ps) (hall : ∀ x ∈ ps, RdSl w x.p u8V x.xs) :
    CallM Tryz.prog 71 [.slice p n cap] [] w fun v L => ∃ ov, OvOk 1 ov (cat ps).length (u8s (cat ps)) ∧ v = slV ov (cat ps).length ∧ L = blkL 5 ov (u8s (cat ps)) := by
  subst hn
  refine enterK (tb := tb) Tryz.func71 rfl Tryz.ntmps71 rfl ?_
  repeat' (first | (apply R.is1; first | (apply R.isCall; (apply R.pure; exact rfl; (apply Ok1.lenS; (iterate 3 exact rfl)))) | (apply R.pure; exact rfl; first | (apply Ok1.move; exact rfl) | (apply Ok1.assign; exact rfl))) | apply R.nil | (apply T.is; first | apply T.seq | apply T.region | apply T.block))
  apply T.loopK (α := Nat) (I := fun i => i ≤ ps.length) (σi := fun i => [(0, .slice p ps.length cap), (3, .int .i64 (cat (ps.take i)).length), (9, .slice p ps.length cap), (10, .int .i64 ps.length), (11, .int .i64 i)]) (Li := fun _ => []) (μ := fun i => ps.length - i) (i0 := 0)
  · exact Nat.zero_le _
  · exact ⟨rfl, rfl, rfl, rfl, rfl, trivial⟩
  · (focus ((repeat' (exact Keep.nil _)); done))
  · intro i hi
    have hle := cat_le ps i
    rcases Nat.lt_or_ge i ps.length with hlt | hge
    · obtain ⟨x, hx⟩ : ∃ x, ps[i]? = some x := ⟨_, List.getElem?_eq_getElem (by omega)⟩
      obtain ⟨b, o, hpe, H⟩ := hp.at hx
      replace H := H 1 Pt.v_len
      have hs := cat_snoc hx
      have hl := congrArg List.length hs
      rw [List.length_append] at hl
      have hle2 := cat_le ps (i + 1)
      repeat' (first | (apply R.is1; first | (apply R.isBin; (apply R.pure; exact rfl; first | (apply Ok1.add64; exact rfl; exact rfl; omega; omega) | (apply Ok1.lss_t; exact rfl; exact rfl; omega) | (apply Ok1.lss_f; exact rfl; exact rfl; omega))) | (apply R.isCall; (apply R.pure; exact rfl; (apply Ok1.lenS; (iterate 3 exact rfl)))) | (apply R.pure; exact rfl; first | (apply Ok1.indexAddrP; (iterate 4 exact rfl); exact hpe; exact rfl; omega; omega) | (apply Ok1.load; exact rfl; apply Ld.row0 H; exact rfl; exact List.not_mem_nil; (iterate 3 exact rfl)) | (apply Ok1.move; exact rfl) | (apply Ok1.assign; exact rfl))) | apply R.nil | (apply T.is; first | apply T.seq | apply T.region | apply T.block | apply T.skip | (apply T.cond_t; exact rfl) | (apply T.cond_f; exact rfl)))
      refine ⟨i + 1, by omega, by omega, ⟨rfl, ?_, rfl, rfl, rfl, trivial⟩, by (focus ((repeat' (exact Keep.nil _)); done))⟩
      rw [hl]
      rfl
    · have him : i = ps.length := by omega
      subst him
      rw [List.take_length]
      have hgr := fun w1 => grow_ok (cat ps).length hbig w1
      repeat' (first | (apply R.is1; first | (apply R.isBin; (apply R.pure; exact rfl; (apply Ok1.lss_f; exact rfl; exact rfl; omega))) | (apply R.isCall; first | (apply R.callE; (iterate 3 exact rfl); exact Ext.none _; intro w1 hw1; exact hgr w1; rintro v Lo ⟨ov0, hov0, rfl, rfl⟩) | (apply R.pure; exact rfl; (apply Ok1.lenS; (iterate 3 exact rfl)))) | (apply R.pure; exact rfl; first | (apply Ok1.move; exact rfl) | (apply Ok1.assign; exact rfl))) | apply R.nil | (apply T.is; first | apply T.seq | apply T.region | apply T.block | apply T.exit | (apply T.cond_f; exact rfl)))
      apply T.loopK (α := Nat × Ov) (I := fun y => y.1 ≤ ps.length ∧ OvOk 1 y.2 (cat (ps.take y.1)).length (u8s (cat (ps.take y.1)))) (σi := fun y => [(6, slV y.2 (cat (ps.take y.1)).length), (25, .slice p ps.length cap), (26, .int .i64 ps.length), (27, .int .i64 y.1)]) (Li := fun y => blkL 5 y.2 (u8s (cat (ps.take y.1)))) (μ := fun y => ps.length - y.1) (i0 := (0, ov0))
      · exact ⟨Nat.zero_le _, hov0⟩
      · exact ⟨rfl, rfl, rfl, rfl, trivial⟩
      · simp only [List.take_zero, cat_nil]
        change Keep _ (blkL 5 ov0 [])
        (focus (repeat' first | exact Ext.here _ _ | apply Keep.last); done)
      · rintro ⟨i, ov⟩ ⟨hi, hov⟩
        simp only at hi hov ⊢
        rcases Nat.lt_or_ge i ps.length with hlt | hge
        · obtain ⟨x, hx⟩ : ∃ x, ps[i]? = some x := ⟨_, List.getElem?_eq_getElem (by omega)⟩
          obtain ⟨b, o, hpe, H⟩ := hp.at hx
          replace H := H 1 Pt.v_len
          have hs := cat_snoc hx
          have hl := congrArg List.length hs
          rw [List.length_append] at hl
          have hle2 := cat_le ps (i + 1)
          have hrd := hall x (List.mem_of_getElem? hx)
          repeat' (first | (apply R.is1; first | (apply R.isBin; (apply R.pure; exact rfl; first | (apply Ok1.add64; exact rfl; exact rfl; omega; omega) | (apply Ok1.lss_t; exact rfl; exact rfl; omega))) | (apply R.isCall; (apply R.appendRd (xs := x.xs) (v := u8V) (sz := 1) (ov := ov) (n := (cat (ps.take i)).length) (old := u8s (cat (ps.take i))); (iterate 12 exact rfl); exact hov; (focus ((repeat' (exact Ext.all _)); done)); exact rfl; exact u8V_len; exact rfl; (intro w1 hw1; exact hrd.chg hw1.chg (Off.nil _)); (focus (rw [fl_u8]; exact u8s_one x.xs)); omega; intro ov1 hov1 hsome)) | (apply R.pure; exact rfl; first | (apply Ok1.indexAddrP; (iterate 4 exact rfl); exact hpe; exact rfl; omega; omega) | (apply Ok1.load; exact rfl; apply Ld.row0 H; exact rfl; exact List.not_mem_nil; (iterate 3 exact rfl)) | (apply Ok1.move; exact rfl) | (apply Ok1.assign; exact rfl))) | apply R.nil | (apply T.is; first | apply T.seq | apply T.region | apply T.block | apply T.skip | (apply T.cond_t; exact rfl)))
          rw [fl_u8, ← u8s_app, ← hs, ← hl] at hov1
          rw [fl_u8, ← u8s_app, ← hs, ← hl]
          repeat' (fail)
          exact ⟨(i + 1, ov1), ⟨by simp only; omega, hov1⟩, by simp only; omega, ⟨rfl, rfl, rfl, rfl, trivial⟩, by (focus (repeat' first | exact Ext.here _ _ | apply Keep.last); done)⟩
        · have him : i = ps.length := by omega
          subst him
          rw [List.take_length] at hov ⊢
          repeat' (first | (apply R.is1; first | (apply R.isBin; (apply R.pure; exact rfl; (apply Ok1.lss_f; exact rfl; exact rfl; omega))) | (apply R.pure; exact rfl; first | (apply Ok1.move; exact rfl) | (apply Ok1.assign; exact rfl))) | apply R.nil | (apply T.is; first | apply T.seq | apply T.region | apply T.exit | apply T.ret | (apply T.cond_f; exact rfl)))
          (apply RetOk.t; exact rfl)
          exact ⟨_, by (focus (repeat' first | exact Ext.all _ | apply Keep.last); done), ov, hov, rfl, rfl⟩
/-- A running digest: on, its words; what is left of it lies in a slice of one's own, from k on. -/
structure RS where
  on : Bool
  s : H8
  ov : Ov
  xs : List Int
  p : Option Addr
  cap : Nat
  k : Nat
  lf : List Int
  n : Nat
def rnC (st : RS) : List Value := [.bool st.on, .slice st.p st.lf.length st.cap, .int .i64 st.n]
def RL (r : Nat) (st : RS) : Lst := (r, .cells ⟨st.s.v ++ rnC st⟩ 312 (0, 0)) :: blkL 5 st.ov (u8s st.xs)
structure RuI (st : RS) (b : List Int) : Prop where
  ov : OvOk 1 st.ov st.xs.length (u8s st.xs)
  sfx : Sfx (ovp st.ov) st.p st.xs.length st.k
  lf : st.lf = st.xs.drop st.k
  cap : st.lf.length ≤ st.cap
  n : st.n = b.length
  left : st.lf = leftI b
  byt : Byt b
  words : st.on = true → st.s = wordsI b
  off : st.on = false → b = []
theorem CallM.imp {P : Program} {f : FuncId} {vs : List Value} {L : Lst} {w : World} {R R' : Value → Lst → Prop} (h : CallM P f vs L w R) (hr : ∀ v L, R v L → R' v L) : CallM P f vs L w R' :=
  ⟨fun hw => (h.run hw).mono fun e w' ⟨v, L', h1, h2, h3⟩ => ⟨v, L', h1, hr _ _ h2, h3⟩⟩
theorem all_own (r : Nat) (s : H8) (rest : List Value) (e e2 : TypeId) {ov : Ov} (b : List Int) {n : Nat} (hov : OvOk 1 ov n (u8s b)) (hbig : n ≤ 1073741824) (hb : Byt b) {w0 w : World} {S : List Nat} {L Lr : Lst} (hw : Hp w0 S L w) (he : Ext L [(r, .cells ⟨s.v ++ rest⟩ e (0, 0))] Lr) (hin : ∀ x ∈ blkL e2 ov (u8s b), x ∈ Lr) :
    CallM Tryz.prog 211 [.pointer (some ⟨r, 0, none⟩), slV ov n] [(r, .cells ⟨s.v ++ rest⟩ e (0, 0))] w fun v L => ∃ s2 p' cap', s2 = allI kI (n / 64) b s ∧ v = .slice p' (n - 64 * (n / 64)) cap' ∧ n - 64 * (n / 64) ≤ cap' ∧ Sfx (ovp ov) p' n (64 * (n / 64)) ∧ L = [(r, .cells ⟨s2.v ++ rest⟩ e (0, 0))] := by
  have hl : n = b.length := by have := hov.1; rw [u8s_len] at this; omega
  have hov' := hov
  rw [slV_eq hov]
  rw [← fl_u8] at hov' hin
  subst hl
  refine CallM.imp (all_ok r s rest e (ovp ov) b.length _ b rfl ?_ hbig hb w (RdSl.own' hw (fun x hx => he.perm.subset (List.mem_append_right _ (hin x hx))) hov' u8V_len) ?_) fun v L ⟨p', cap', h1, h2, h3, h4⟩ => ⟨_, p', cap', rfl, h1, h2, h3, h4⟩
  · cases ov with
    | none => have : b.length = 0 := hov.2; simp [ovc, this]
    | some z => simp [ovc]
  · cases ov with
    | none => intro a ha; cases ha
    | some z => obtain ⟨b0, j, junk⟩ := z; intro a ha; cases ha; exact RdSl.off hw he (hin _ List.mem_cons_self)
theorem rAdd_ok (r : Nat) (st : RS) (b : List Int) (hI : RuI st b) (pp : Option Addr) (m cap : Nat) (ps : List Pt) (hm : m = ps.length) (hbyt : Byt (cat ps)) (hbig : (b ++ cat ps).length ≤ 1000000000) (hm2 : m ≤ 1000000000) (w : World) (hp : RdSl w pp Pt.v ps) (hoff : ps ≠ [] → Off pp (blks (RL r st))) (hall : ∀ x ∈ ps, RdSl w x.p u8V x.xs ∧ (x.xs ≠ [] → Off x.p (blks (RL r st)))) :
    CallM Tryz.prog 165 [.pointer (some ⟨r, 0, none⟩), .slice pp m cap] (RL r st) w fun v L => ∃ st', v = .pointer (some ⟨r, 0, none⟩) ∧ L = RL r st' ∧ RuI st' (b ++ cat ps) ∧ st'.on = true := by
  subst hm
  refine enterK (tb := tb) Tryz.func165 rfl Tryz.ntmps165 rfl ?_
  obtain ⟨S, hS⟩ : ∃ S, S = blks (RL r st) := ⟨_, rfl⟩
  rw [← hS] at hoff hall ⊢
  rw [List.length_append] at hbig
  repeat' (first | (apply R.is1; first | (apply R.isBin; (apply R.pure; exact rfl; (apply Ok1.eqlP; (iterate 5 exact rfl)))) | (apply R.pure; exact rfl; first | (apply Ok1.move; exact rfl) | (apply Ok1.fieldAddr; (iterate 5 exact rfl)) | (apply Ok1.load; exact rfl; (apply Ld.own1; exact rfl; exact rfl; exact At.head; exact rfl)) | (apply Ok1.assign; exact rfl) | (apply Ok1.not; exact rfl) | (apply Ok1.nilCheck; exact rfl))) | apply R.nil | (apply T.is; first | (refine T.meetK (x := .seq (.region 3 _ _) _) (α := RS) (I := fun x => RuI x b ∧ x.on = true) (σi := fun x => [(0, .pointer (some ⟨r, 0, none⟩)), (1, .slice pp ps.length cap)]) (Li := fun x => RL r x) ?_ ?_) | apply T.seq | apply T.region | apply T.skip | (apply T.cond_f; exact rfl) | (apply T.cond rfl <;> intro)))
  · have hof : st.on = false := by simpa using ‹(!st.on) = true›
    simp only [RL, rnC, H8.v, H8.l, u32s, List.map_cons, List.map_nil, List.cons_append, List.nil_append]
    repeat' (first | (apply R.is1; first | (apply R.isCall; apply R.callP rfl rfl rfl begun_ok) | (apply R.pure; exact rfl; first | (apply Ok1.fieldAddr; (iterate 5 exact rfl)) | (apply Ok1.nilCheck; exact rfl))) | (apply R.is0; (apply R.store; (iterate 6 exact rfl); exact Upd.head; exact rfl)) | apply R.nil)
    refine ⟨⟨true, h0I, st.ov, st.xs, st.p, st.cap, st.k, st.lf, st.n⟩, ⟨⟨hI.ov, hI.sfx, hI.lf, hI.cap, hI.n, hI.left, hI.byt, fun _ => by rw [hI.off hof]; rfl, fun h => by cases h⟩, rfl⟩, ⟨rfl, rfl, trivial⟩, ?_⟩
    (focus (repeat' first | exact Ext.one _ _ | exact Ext.all _ | apply Keep.cons | apply Keep.last); done)
  · have hof : st.on = true := by simpa using ‹(!st.on) = false›
    exact ⟨st, ⟨hI, hof⟩, ⟨rfl, rfl, trivial⟩, by (focus (repeat' first | exact Ext.one _ _ | exact Ext.all _ | apply Keep.cons | apply Keep.last); done)⟩
  · clear hI hS
    rintro st0 ⟨hI0, hon0⟩
    repeat' (first | (apply R.is1; first | (apply R.isCall; (apply R.pure; exact rfl; (apply Ok1.lenS; (iterate 3 exact rfl)))) | (apply R.pure; exact rfl; (apply Ok1.move; exact rfl))) | apply R.nil | (apply T.is; first | apply T.seq | apply T.region | apply T.block))
    apply T.loopK (α := Nat × RS) (I := fun y => y.1 ≤ ps.length ∧ RuI y.2 (b ++ cat (ps.take y.1)) ∧ y.2.on = true) (σi := fun y => [(0, .pointer (some ⟨r, 0, none⟩)), (21, .slice pp ps.length cap), (22, .int .i64 ps.length), (23, .int .i64 y.1)]) (Li := fun y => RL r y.2) (μ := fun y => ps.length - y.1) (i0 := (0, st0))
    · exact ⟨Nat.zero_le _, by simpa [cat_nil] using hI0, hon0⟩
    · exact ⟨rfl, rfl, rfl, rfl, trivial⟩
    · (focus (repeat' first | exact Ext.one _ _ | exact Ext.all _ | apply Keep.cons | apply Keep.last); done)
    · rintro ⟨i, s1⟩ ⟨hi, hI1, hon1⟩
      simp only at hi hI1 hon1 ⊢
      rcases Nat.lt_or_ge i ps.length with hlt | hge
      · obtain ⟨x, hx⟩ : ∃ x, ps[i]? = some x := ⟨_, List.getElem?_eq_getElem (by omega)⟩
        obtain ⟨hrd, hxo⟩ := hall x (List.mem_of_getElem? hx)
        obtain ⟨b', o', hpe, H⟩ := hp.at hx
        replace H := H 1 Pt.v_len
        have hbS := hoff (by intro h; rw [h] at hlt; simp at hlt) _ hpe
        have hs := cat_snoc hx
        have hl := congrArg List.length hs
        rw [List.length_append] at hl
        have hle2 := cat_le ps (i + 1)
        have hbx : Byt x.xs := fun y hy => hbyt y (List.mem_flatMap.2 ⟨x, List.mem_of_getElem? hx, hy⟩)
        have hB : b ++ cat (ps.take (i + 1)) = (b ++ cat (ps.take i)) ++ x.xs := by rw [hs, List.append_assoc]
        have hBl : (b ++ cat (ps.take (i + 1))).length = (b ++ cat (ps.take i)).length + x.xs.length := by rw [hB, List.length_append]
        have hBle : (b ++ cat (ps.take (i + 1))).length ≤ 1000000000 := by rw [List.length_append]; omega
        generalize b ++ cat (ps.take i) = B at *
        obtain ⟨on, s, ov, xs, p1, cap1, k, lf, n⟩ := s1
        obtain ⟨hov, hsfx, hlf, hcap1, hn, hleft, hbB, hw', _⟩ := hI1
        simp only at hov hsfx hlf hcap1 hn hleft hw' hon1
        subst hon1
        have hfeed := feed B x.xs
        rw [← hleft, ← hw' rfl] at hfeed
        have hll := left_len B
        rw [← hleft] at hll
        have hbl : Byt (lf ++ x.xs) := (by rw [hleft]; exact hbB.drop _ : Byt lf).app hbx
        have hrl : ∀ {w0 w1 : World} {S : List Nat} {L : Lst}, Hp w0 S L w1 → (∀ x ∈ blkL 5 ov (u8s xs), x ∈ L) → RdSl w1 p1 u8V lf := fun hw1 hin => by
          rw [hlf]
          refine hsfx.rd _ xs rfl ?_
          rw [← fl_u8] at hin hov
          exact RdSl.own' hw1 hin hov u8V_len
        have hcat : cat [⟨p1, cap1, lf⟩, x] = lf ++ x.xs := by simp [cat]
        have hln : (lf ++ x.xs).length = lf.length + x.xs.length := List.length_append
        simp only [RL, rnC, H8.v, H8.l, u32s, List.map_cons, List.map_nil, List.cons_append, List.nil_append]
        repeat' (first | (apply R.is1; first | (apply R.isBin; (apply R.pure; exact rfl; first | (apply Ok1.add64; exact rfl; exact rfl; omega; omega) | (apply Ok1.lss_t; exact rfl; exact rfl; omega))) | (apply R.isCall; (apply R.pure; exact rfl; (apply Ok1.lenS; (iterate 3 exact rfl)))) | (apply R.pure; exact rfl; first | (apply Ok1.indexAddrP; (iterate 4 exact rfl); exact hpe; exact rfl; omega; omega) | (apply Ok1.load; exact rfl; apply Ld.row0 H; exact rfl; exact hbS; (iterate 3 exact rfl)) | (apply Ok1.move; exact rfl) | (apply Ok1.fieldAddr; (iterate 5 exact rfl)) | (apply Ok1.load; exact rfl; (apply Ld.own1; exact rfl; exact rfl; exact At.head; exact rfl)) | (apply Ok1.assign; exact rfl) | (apply Ok1.nilCheck; exact rfl))) | (apply R.is0; (apply R.store; (iterate 6 exact rfl); exact Upd.head; exact rfl)) | apply R.nil | (apply T.is; first | (apply T.drawC (id := 9) [] (by decide); ((apply A.tk 0; exact rfl; kernel_rfl; (apply Ok1.move; exact rfl)) <;> (apply A.tk 1; exact rfl; kernel_rfl; (apply Ok1.move; exact rfl)) <;> (apply A.tk 2; exact rfl; kernel_rfl; (apply Ok1.nilCheck; exact rfl)) <;> (apply A.tk 3; exact rfl; kernel_rfl; (apply Ok1.fieldAddr; (iterate 5 exact rfl))) <;> (apply A.tk 4; exact rfl; kernel_rfl; (apply Ok1.move; exact rfl)) <;> (apply A.tk 5; exact rfl; kernel_rfl; (apply Ok1.nilCheck; exact rfl)) <;> (apply A.tk 6; exact rfl; kernel_rfl; (apply Ok1.fieldAddr; (iterate 5 exact rfl))) <;> (apply A.tk 8; exact rfl; kernel_rfl; (apply Ok1.move; exact rfl)) <;> (apply A.one 7; kernel_rfl; exact rfl; (((apply R.pure; exact rfl; (apply Ok1.load; exact rfl; (apply Ld.own1; exact rfl; exact rfl; exact At.head; exact rfl))))); apply R.nil; refine ⟨?_, ?_⟩; (focus ((repeat' (exact trivial))))) <;> (apply A.one 9; kernel_rfl; exact rfl; (((apply R.buildSlice; (iterate 12 exact rfl); intro))); apply R.nil; refine ⟨?_, ?_⟩; (focus ((repeat' (exact trivial))))) <;> (apply A.one 10; kernel_rfl; exact rfl; (((apply R.callE; (iterate 3 exact rfl); exact Ext.none _; intro w1 hw1; have h9 := concat_ok (some ⟨_, 0, none⟩) 2 2 [⟨p1, cap1, lf⟩, x] rfl (by rw [hcat]; omega) (by omega) w1 (RdSl.of (v := Pt.v) (rs := [⟨p1, cap1, lf⟩, x]) (junk := []) hw1 (by exact At.head) rfl) (by intro y hy; rcases List.mem_cons.1 hy with rfl | hy; exact hrl hw1 (Ext.mem (by (focus (repeat' first | exact Ext.all _ | apply Ext.cons); done))); rw [List.mem_singleton.1 hy]; exact hrd.chg' hw1.chg hxo); rw [hcat] at h9; exact h9; rintro v Lo ⟨ovc, hovc, rfl, rfl⟩))); apply R.nil; refine ⟨?_, ?_⟩; (focus ((repeat' (exact trivial))))) <;> (apply A.one 11; kernel_rfl; exact rfl; (((apply R.callE (Li := [(r, .cells ⟨s.v ++ [.bool true, .slice p1 lf.length cap1, .int .i64 (n + x.xs.length)]⟩ 312 (0, 0))]); (iterate 3 exact rfl); (focus (repeat' first | exact Ext.one _ _ | apply Ext.cons | apply Ext.app); done); intro w1 hw1; exact all_own r s _ _ _ (lf ++ x.xs) hovc (by omega) hbl hw1 (by (focus (repeat' first | exact Ext.one _ _ | apply Ext.cons | apply Ext.app); done)) (Ext.mem (by (focus ((repeat' (exact Ext.here _ _)); done)))); rintro v Lo ⟨s2, p', cap', hs2, rfl, hc2, hsf2, rfl⟩; simp only [H8.v, H8.l, u32s, List.map_cons, List.map_nil, List.cons_append, List.nil_append]))); apply R.nil; refine ⟨?_, ?_⟩; (focus ((repeat' (exact trivial))))) <;> (apply A.tk 12; exact rfl; kernel_rfl; (apply Ok1.nilCheck; exact rfl)) <;> (apply A.tk 13; exact rfl; kernel_rfl; (apply Ok1.fieldAddr; (iterate 5 exact rfl))) <;> (apply A.one 14; kernel_rfl; exact rfl; (((apply R.store; (iterate 6 exact rfl); exact Upd.head; exact rfl))); apply R.nil; refine ⟨?_, ?_⟩; (focus ((repeat' (exact trivial))))) <;> (apply A.done; kernel_rfl))) | apply T.seq | apply T.region | apply T.block | apply T.skip | (apply T.cond_t; exact rfl)))
        rw [← hs2] at hfeed
        refine ⟨(i + 1, ⟨true, s2, ovc, lf ++ x.xs, p', cap', 64 * ((lf ++ x.xs).length / 64), (lf ++ x.xs).drop (64 * ((lf ++ x.xs).length / 64)), n + x.xs.length⟩), ⟨by simp only; omega, ?_, rfl⟩, by simp only; omega, ⟨rfl, rfl, rfl, rfl, trivial⟩, ?_⟩
        · rw [hB]
          exact ⟨hovc, hsf2, rfl, by simp only [List.length_drop]; exact hc2, by simp only [List.length_append]; omega, hfeed.2, hbB.app hbx, fun _ => hfeed.1, fun h => by cases h⟩
        · simp only [RL, rnC, H8.v, H8.l, u32s, List.map_cons, List.map_nil, List.cons_append, List.nil_append, List.length_drop, Int.natCast_add]
          (focus (repeat' first | exact Ext.one _ _ | exact Ext.here _ _ | apply Keep.cons | apply Keep.last); done)
      · have him : i = ps.length := by omega
        subst him
        rw [List.take_length] at hI1
        repeat' (first | (apply R.is1; first | (apply R.isBin; (apply R.pure; exact rfl; (apply Ok1.lss_f; exact rfl; exact rfl; omega))) | (apply R.pure; exact rfl; first | (apply Ok1.move; exact rfl) | (apply Ok1.assign; exact rfl))) | apply R.nil | (apply T.is; first | apply T.seq | apply T.region | apply T.exit | apply T.ret | (apply T.cond_f; exact rfl)))
        (apply RetOk.t; exact rfl)
        exact ⟨_, by (focus (repeat' first | exact Ext.one _ _ | exact Ext.all _ | apply Keep.cons | apply Keep.last); done), s1, rfl, rfl, hI1, hon1⟩
theorem rCopy_ok (r : Nat) (st : RS) (b : List Int) (hI : RuI st b) (hbig : b.length ≤ 1000000000) (w : World) (hb : w.heap[r]? = some (.cells ⟨st.s.v ++ rnC st⟩ 312 (0, 0))) (hl : RdSl w st.p u8V st.lf) :
    CallM Tryz.prog 213 [.pointer (some ⟨r, 0, none⟩)] [] w fun v L => ∃ r' st', v = .pointer (some ⟨r', 0, none⟩) ∧ L = RL r' st' ∧ RuI st' b := by
  refine enterK (tb := tb) Tryz.func213 rfl Tryz.ntmps213 rfl ?_
  have hll := left_len b
  rw [← hI.left] at hll
  obtain ⟨on, s, ov, xs, p1, cap1, k, lf, n⟩ := st
  simp only [RL, rnC, H8.v, H8.l, u32s, List.map_cons, List.map_nil, List.cons_append, List.nil_append] at hb hl hll ⊢
  have hcl := fun w1 (hc : Chg [] w w1) => clone_ok p1 lf.length cap1 lf rfl (by omega) w1 (hl.chg hc (Off.nil _))
  repeat' (first | (apply R.is1; first | (apply R.isBin; (apply R.pure; exact rfl; (apply Ok1.eqlP; (iterate 5 exact rfl)))) | (apply R.isCall; (apply R.callE; (iterate 3 exact rfl); exact Ext.none _; intro w1 hw1; exact hcl w1 hw1.chg; rintro v Lo ⟨ov2, hov2, hsome, rfl, rfl⟩; rw [slV_eq hov2])) | (apply R.pure; exact rfl; first | (apply Ok1.move; exact rfl) | (apply Ok1.fieldAddr; (iterate 5 exact rfl)) | (apply Ok1.load; exact rfl; first | (apply Ld.blk1; exact rfl; exact rfl; assumption; (exact List.not_mem_nil); exact rfl) | (apply Ld.blkk; exact rfl; exact rfl; assumption; (exact List.not_mem_nil); exact rfl)) | (apply Ok1.assign; exact rfl) | (apply Ok1.nilCheck; exact rfl)) | (apply R.alloc; (iterate 3 exact rfl); intro)) | (apply R.is0; (apply R.store; (iterate 6 exact rfl); (focus (repeat' first | exact Upd.head | apply Upd.right); done); exact rfl)) | apply R.nil | (apply T.is; first | apply T.seq | apply T.region | apply T.skip | apply T.ret | (apply T.cond_f; exact rfl)))
  rename_i br
  (apply RetOk.t; exact rfl)
  refine ⟨_, ?_, br, ⟨on, s, ov2, lf, ovp ov2, ovc ov2 lf.length, 0, lf, n⟩, rfl, rfl, ⟨hov2, Sfx.refl _ _, rfl, ?_, hI.n, hI.left, hI.byt, hI.words, hI.off⟩⟩
  · simp only [RL, rnC, H8.v, H8.l, u32s, List.map_cons, List.map_nil, List.cons_append, List.nil_append]
    (focus (repeat' first | exact Ext.one _ _ | exact Ext.here _ _ | apply Keep.cons | apply Keep.last | apply Ext.app); done)
  · simp only
    cases ov2 with
    | none => have : lf.length = 0 := hov2.2; simp [ovc, this]
    | some z => simp [ovc]
theorem rdown {ov : Ov} {xs : List Int} {e : Nat} (hov : OvOk 1 ov xs.length (u8s xs)) {w0 w : World} {S : List Nat} {L : Lst} (hw : Hp w0 S L w) (hin : ∀ x ∈ blkL e ov (u8s xs), x ∈ L) : RdSl w (ovp ov) u8V xs := by
  rw [← fl_u8] at hov hin
  exact RdSl.own' hw hin hov u8V_len
theorem RuI.rd {st : RS} {b : List Int} (hI : RuI st b) {w0 w : World} {S : List Nat} {L : Lst} (hw : Hp w0 S L w) (hin : ∀ x ∈ blkL 5 st.ov (u8s st.xs), x ∈ L) : RdSl w st.p u8V st.lf := by
  rw [hI.lf]
  exact hI.sfx.rd _ _ rfl (rdown hI.ov hw hin)
theorem rSum_ok (r : Nat) (st : RS) (b : List Int) (hI : RuI st b) (hbig : b.length ≤ 999999000) (w : World) (hb : w.heap[r]? = some (.cells ⟨st.s.v ++ rnC st⟩ 312 (0, 0))) (hl : RdSl w st.p u8V st.lf) :
    CallW Tryz.prog 166 [.pointer (some ⟨r, 0, none⟩)] w fun v _ => v = .agg ⟨u8s (shaI b)⟩ := by
  refine enterW (tb := tb) Tryz.func166 rfl Tryz.ntmps166 rfl ?_
  have hcopy := fun w1 (hc : Chg [] w w1) => rCopy_ok r st b hI (by omega) w1 (hc.heap hb List.not_mem_nil) (hl.chg hc (Off.nil _))
  repeat' (first | (apply R.is1; first | (apply R.isBin; (apply R.pure; exact rfl; (apply Ok1.eqlP; (iterate 5 exact rfl)))) | (apply R.isCall; (apply R.callE; (iterate 3 exact rfl); exact Ext.none _; intro w1 hw1; exact hcopy w1 hw1.chg; rintro v Lo ⟨r', st', rfl, rfl, hI'⟩)) | (apply R.pure; exact rfl; (apply Ok1.move; exact rfl)) | (apply R.alloc; (iterate 3 exact rfl); intro)) | apply R.nil | (apply T.is; first | apply T.seq | apply T.region | apply T.skip | (apply T.cond_f; exact rfl)))
  repeat' (first | (apply R.is1; first | (apply R.isCall; (apply R.callE (Li := RL r' st'); (iterate 3 exact rfl); (focus ((repeat' (exact Ext.here _ _)); done)); intro w1 hw1; exact rAdd_ok r' st' b hI' none 0 0 [] rfl (by intro y hy; cases hy) (by rw [cat_nil, List.append_nil]; omega) (by decide) w1 (.inl rfl) (fun h => absurd rfl h) (by intro y hy; cases hy); rintro v Lo ⟨st2, rfl, rfl, hI2, hon2⟩; rw [cat_nil, List.append_nil] at hI2)) | (apply R.pure; exact rfl; (apply Ok1.assign; exact rfl)) | (apply R.buildSlice; (iterate 12 exact rfl); intro)) | apply R.nil | (apply T.is; first | apply T.seq | apply T.region | apply T.block))
  rename_i bt b4
  have hl2 := left_len b
  rw [← hI2.left] at hl2
  have hIw := hI2.words hon2
  have hn0 := hI.n
  obtain ⟨on2, s2, ov2, xs2, p2, cap2, k2, lf2, n2⟩ := st2
  obtain ⟨on0, s0, ov0, xs0, p0, cap0, k0, lf0, n0⟩ := st
  simp only at hl2 hIw hn0 hon2
  obtain ⟨Z, hZ⟩ : ∃ Z, Z = (119 - b.length % 64) % 64 := ⟨_, rfl⟩
  simp only [rnC, H8.v, H8.l, u32s, List.map_cons, List.map_nil, List.cons_append, List.nil_append] at hb
  simp only [RL, rnC, H8.v, H8.l, u32s, List.map_cons, List.map_nil, List.cons_append, List.nil_append]
  apply T.loopK (α := Nat × Ov) (I := fun x => x.1 ≤ Z ∧ OvOk 1 x.2 (1 + x.1) (u8s (128 :: List.replicate x.1 0))) (σi := fun x => [(0, .pointer (some ⟨r, 0, none⟩)), (2, .pointer (some ⟨bt, 0, none⟩)), (3, .pointer (some ⟨r', 0, none⟩)), (4, slV x.2 (1 + x.1))])
    (Li := fun x => (r', .cells ⟨[.int .u32 s2.a, .int .u32 s2.b, .int .u32 s2.c, .int .u32 s2.d, .int .u32 s2.e, .int .u32 s2.f, .int .u32 s2.g, .int .u32 s2.h, .bool on2, .slice p2 lf2.length cap2, .int .i64 n2]⟩ 312 (0, 0)) :: (bt, .cells ⟨List.replicate 32 (.int .u8 0)⟩ 98 (0, 0)) :: (blkL 5 x.2 (u8s (128 :: List.replicate x.1 0)) ++ blkL 5 ov2 (u8s xs2))) (μ := fun x => Z - x.1) (i0 := (0, some (b4, 0, [])))
  · exact ⟨Nat.zero_le _, rfl, rfl⟩
  · exact ⟨rfl, rfl, rfl, rfl, trivial⟩
  · (focus (repeat' first | exact Ext.one _ _ | exact Ext.here _ _ | exact Ext.all _ | apply Keep.cons | apply Keep.app | apply Keep.last | apply Ext.cons | apply Ext.app); done)
  · rintro ⟨j, ov⟩ ⟨hj, hov⟩
    simp only at hj hov ⊢
    rcases Nat.lt_or_ge j Z with hlt | hge
    · have hne : ((lf2.length : Int) + ((1 + j : Nat) : Int) + 8) % 64 ≠ 0 := by omega
      repeat' (first | (apply R.is1; first | (apply R.isBin; (apply R.pure; exact rfl; first | (apply Ok1.add64; exact rfl; exact rfl; omega; omega) | (apply Ok1.neq_t; exact rfl; exact rfl; omega) | (apply Ok1.remN; exact rfl; exact rfl; omega; omega))) | (apply R.isCall; first | (apply R.pure; exact rfl; apply Ok1.lenOv; (iterate 3 exact rfl); exact hov) | (apply R.append1; (iterate 12 exact rfl); (focus (repeat' first | exact OwnAt.mid hov | apply OwnAt.tail); done); exact At.head; exact rfl; exact rfl; omega; omega; intro b2 j2 k2 hj2) | (apply R.pure; exact rfl; (apply Ok1.lenS; (iterate 3 exact rfl)))) | (apply R.pure; exact rfl; first | (apply Ok1.move; exact rfl) | (apply Ok1.fieldAddr; (iterate 5 exact rfl)) | (apply Ok1.load; exact rfl; (apply Ld.own1; exact rfl; exact rfl; exact At.head; exact rfl)) | (apply Ok1.assign; exact rfl) | (apply Ok1.nilCheck; exact rfl)) | (apply R.buildSlice; (iterate 12 exact rfl); intro)) | apply R.nil | (apply T.is; first | apply T.seq | apply T.region | apply T.block | apply T.skip | (apply T.cond_t; exact rfl)))
      have hov' := hov.some (b := b2) (ys := [.int .u8 0]) (m := 1) rfl hj2
      have hu : u8s (128 :: List.replicate (j + 1) 0) = u8s (128 :: List.replicate j 0) ++ [.int .u8 0] := by rw [List.replicate_succ']; simp [u8s]
      refine ⟨(j + 1, some (b2, j2, k2)), ⟨by simp only; omega, by simp only [hu]; exact hov'⟩, by simp only; omega, ⟨rfl, rfl, rfl, rfl, trivial⟩, ?_⟩
      simp only [hu, blkL, List.cons_append, List.nil_append]
      (focus (repeat' first | exact Ext.one _ _ | exact Ext.all _ | apply Keep.cons | apply Keep.last | apply Ext.cons); done)
    · have hjZ : j = Z := by omega
      subst j
      have hne : ((lf2.length : Int) + ((1 + Z : Nat) : Int) + 8) % 64 = 0 := by omega
      repeat' (first | (apply R.is1; first | (apply R.isBin; (apply R.pure; exact rfl; first | (apply Ok1.add64; exact rfl; exact rfl; omega; omega) | (apply Ok1.neq_f; exact rfl; exact rfl; omega) | (apply Ok1.remN; exact rfl; exact rfl; omega; omega))) | (apply R.isCall; first | (apply R.pure; exact rfl; apply Ok1.lenOv; (iterate 3 exact rfl); exact hov) | (apply R.pure; exact rfl; (apply Ok1.lenS; (iterate 3 exact rfl)))) | (apply R.pure; exact rfl; first | (apply Ok1.move; exact rfl) | (apply Ok1.fieldAddr; (iterate 5 exact rfl)) | (apply Ok1.load; exact rfl; (apply Ld.own1; exact rfl; exact rfl; exact At.head; exact rfl)) | (apply Ok1.assign; exact rfl) | (apply Ok1.nilCheck; exact rfl))) | apply R.nil | (apply T.is; first | apply T.seq | apply T.region | apply T.block | apply T.exit | (apply T.cond_f; exact rfl)))
      apply T.loopK (α := Nat × Ov) (I := fun x => x.1 ≤ 8 ∧ OvOk 1 x.2 (1 + Z + x.1) (u8s (128 :: (List.replicate Z 0 ++ (lenI (8 * (n0 : Int))).take x.1)))) (σi := fun x => [(0, .pointer (some ⟨r, 0, none⟩)), (2, .pointer (some ⟨bt, 0, none⟩)), (3, .pointer (some ⟨r', 0, none⟩)), (4, slV x.2 (1 + Z + x.1)), (5, .int .i64 (7 - (x.1 : Int)))])
        (Li := fun x => (r', .cells ⟨[.int .u32 s2.a, .int .u32 s2.b, .int .u32 s2.c, .int .u32 s2.d, .int .u32 s2.e, .int .u32 s2.f, .int .u32 s2.g, .int .u32 s2.h, .bool on2, .slice p2 lf2.length cap2, .int .i64 n2]⟩ 312 (0, 0)) :: (bt, .cells ⟨List.replicate 32 (.int .u8 0)⟩ 98 (0, 0)) :: (blkL 5 x.2 (u8s (128 :: (List.replicate Z 0 ++ (lenI (8 * (n0 : Int))).take x.1))) ++ blkL 5 ov2 (u8s xs2))) (μ := fun x => 8 - x.1) (i0 := (0, ov))
      · exact ⟨Nat.zero_le _, by simpa using hov⟩
      · exact ⟨rfl, rfl, rfl, rfl, rfl, trivial⟩
      · simp only [List.take_zero, List.append_nil]
        (focus (repeat' first | exact Ext.one _ _ | exact Ext.here _ _ | exact Ext.all _ | apply Keep.cons | apply Keep.app | apply Keep.last); done)
      · clear hov hcopy hl
        rintro ⟨m, ov⟩ ⟨hm, hov⟩
        simp only at hm hov ⊢
        rcases Nat.lt_or_ge m 8 with hlt | hge
        · have hmz : m = 0 ∨ m = 1 ∨ m = 2 ∨ m = 3 ∨ m = 4 ∨ m = 5 ∨ m = 6 ∨ m = 7 := by omega
          have hu : u8s (128 :: (List.replicate Z 0 ++ (lenI (8 * (n0 : Int))).take (m + 1))) = u8s (128 :: (List.replicate Z 0 ++ (lenI (8 * (n0 : Int))).take m)) ++ [.int .u8 ((lenI (8 * (n0 : Int))).getD m 0)] := by
            rcases hmz with rfl | rfl | rfl | rfl | rfl | rfl | rfl | rfl <;> simp [lenI, u8s]
          have hpos : (0 : Int) ≤ n0 := by omega
          have hbg : (n0 : Int) ≤ 1000000000 := by omega
          obtain ⟨sh, hsh⟩ : ∃ sh : Int, sh = pw (8 * (7 - m)) := ⟨_, rfl⟩
          have hval : IntKind.u8.wrap ((n0 : Int) * 8 / sh) = (lenI (8 * (n0 : Int))).getD m 0 := by
            rw [u8_mod, Int.mul_comm]
            subst hsh
            rcases hmz with rfl | rfl | rfl | rfl | rfl | rfl | rfl | rfl <;> first | rfl | (simp [lenI, pw])
          have hj8 : (8 * (7 - (m : Int))).toNat = 8 * (7 - m) := by omega
          have hsh2 : pw (8 * (7 - (m : Int))).toNat = sh := by rw [hj8]; exact hsh.symm
          have hb64 : (8 * (7 - (m : Int))).toNat ≤ IntKind.u64.bits := by rw [hj8]; show 8 * (7 - m) ≤ 64; omega
          clear hsh
          repeat' (first | (apply R.is1; first | (apply R.isBin; (apply R.pure; exact rfl; first | (apply Ok1.mulU; exact rfl; exact rfl; omega; omega) | (apply Ok1.shr; exact rfl; exact rfl; omega; exact hb64; exact hsh2) | (apply Ok1.sub64; exact rfl; exact rfl; omega; omega) | (apply Ok1.geq_t; exact rfl; exact rfl; omega) | (apply Ok1.mul64; exact rfl; exact rfl; omega; omega))) | (apply R.isCall; (apply R.append1; (iterate 12 exact rfl); (focus (repeat' first | exact OwnAt.mid hov | apply OwnAt.tail); done); exact At.head; exact rfl; exact rfl; omega; omega; intro b2 j2 k2 hj2)) | (apply R.pure; exact rfl; first | (apply Ok1.convU64; (iterate 5 exact rfl); omega; omega) | (apply Ok1.move; exact rfl) | (apply Ok1.fieldAddr; (iterate 5 exact rfl)) | (apply Ok1.load; exact rfl; (apply Ld.blk1; exact rfl; exact rfl; assumption; (exact List.not_mem_nil); exact rfl)) | (apply Ok1.assign; exact rfl) | (apply Ok1.nilCheck; exact rfl) | (apply Ok1.conv; (iterate 5 exact rfl))) | (apply R.buildSlice; (iterate 12 exact rfl); intro)) | apply R.nil | (apply T.is; first | apply T.seq | apply T.region | apply T.block | apply T.skip | (apply T.cond_t; exact rfl)))
          have hov' := hov.some (b := b2) (ys := [.int .u8 (IntKind.u8.wrap ((n0 : Int) * 8 / sh))]) (m := 1) rfl hj2
          rw [hval, ← hu] at hov'
          rw [hval, ← hu]
          refine ⟨(m + 1, some (b2, j2, k2)), ⟨by simp only; omega, hov'⟩, by simp only; omega, ⟨rfl, rfl, rfl, rfl, ?_, trivial⟩, ?_⟩
          · rw [show (7 : Int) - ((m + 1 : Nat) : Int) = 7 - (m : Int) - 1 by omega]
            rfl
          · simp only [blkL, List.cons_append, List.nil_append]
            (focus (repeat' first | exact Ext.one _ _ | exact Ext.all _ | apply Keep.cons | apply Keep.last | apply Ext.cons); done)
        · have hm8 : m = 8 := by omega
          subst hm8
          have hpad : (128 :: (List.replicate Z 0 ++ (lenI (8 * (n0 : Int))).take 8)) = padI b.length := by subst hZ; subst hn0; rfl
          rw [hpad] at hov ⊢
          have hpl : 1 + Z + 8 = (padI b.length).length := by have := hov.1; rw [u8s_len] at this; omega
          have hbp : Byt (padI b.length) := by
            intro y hy
            rcases List.mem_cons.1 hy with rfl | hy
            · omega
            · rcases List.mem_append.1 hy with hy | hy
              · rw [List.eq_of_mem_replicate hy]; omega
              · simp only [lenI, List.mem_cons, List.not_mem_nil, or_false] at hy
                rcases hy with rfl | rfl | rfl | rfl | rfl | rfl | rfl | rfl <;> omega
          have hpb : (padI b.length).length ≤ 80 := by omega
          rw [hpl] at hov ⊢
          cases ov with
          | none => exact absurd hov.2 (by omega)
          | some z =>
          obtain ⟨be, je, ke⟩ := z
          have hcat : cat [⟨some ⟨be, 0, none⟩, (padI b.length).length + je, padI b.length⟩] = padI b.length := by simp [cat]
          have hsl := sha_len b
          have hls : (u8s (shaI b)).length = 32 := by rw [u8s_len, hsl]
          have hone := u8s_one (shaI b)
          have hset : ∀ cs : List Value, cs.length = 32 → setE cs 0 (u8s (shaI b)) = some (u8s (shaI b)) := fun cs h => setE_all (by rw [hls, h])
          have hsub := subE_all hls
          have hsw := sha_words b
          generalize padI b.length = pd at *
          simp only [slV, blkL, List.cons_append, List.nil_append]
          repeat' (first | (apply R.is1; first | (apply R.isBin; (apply R.pure; exact rfl; (apply Ok1.geq_f; exact rfl; exact rfl; omega))) | (apply R.isCall; (apply R.callE (Li := RL r' ⟨on2, s2, ov2, xs2, p2, cap2, k2, lf2, n2⟩); (iterate 3 exact rfl); (focus (exact Ext.cons _ (Ext.two _ (Ext.one _ _) (Ext.cons _ (Ext.cons _ (Ext.all _)))))); intro w1 hw1; have h9 := rAdd_ok r' ⟨on2, s2, ov2, xs2, p2, cap2, k2, lf2, n2⟩ b hI2 (some ⟨_, 0, none⟩) 1 1 [⟨some ⟨be, 0, none⟩, pd.length + je, pd⟩] rfl (by rw [hcat]; exact hbp) (by rw [hcat, List.length_append]; omega) (by decide) w1 (RdSl.of (v := Pt.v) (rs := [⟨some ⟨be, 0, none⟩, pd.length + je, pd⟩]) (junk := []) hw1 (by exact At.head) rfl) (fun _ => Off.of (k := 0) hw1 (Ext.cons _ (Ext.two _ (Ext.one _ _) (Ext.cons _ (Ext.cons _ (Ext.all _))))) (by exact At.head)) (fun y hy => by rw [List.mem_singleton.1 hy]; exact ⟨RdSl.of (v := u8V) (rs := pd) (junk := ke) hw1 (by (focus (repeat' first | exact At.head | apply At.tail); done)) (by rw [fl_u8]), fun _ => Off.of (k := 0) hw1 (Ext.cons _ (Ext.two _ (Ext.one _ _) (Ext.cons _ (Ext.cons _ (Ext.all _))))) (by (focus (repeat' first | exact At.head | apply At.tail); done))⟩); exact h9; rintro v Lo ⟨st3, rfl, rfl, hI3, hon3⟩)) | (apply R.pure; exact rfl; first | (apply Ok1.move; exact rfl) | (apply Ok1.fieldAddr; (iterate 5 exact rfl)) | (apply Ok1.nilCheck; exact rfl)) | (apply R.buildSlice; (iterate 12 exact rfl); intro)) | apply R.nil | (apply T.is; first | apply T.seq | apply T.region | apply T.exit | (apply T.cond_f; exact rfl)))
          rw [hcat] at hI3
          have hw3 := hI3.words hon3
          rw [← hw3] at hsw
          simp only [RL, List.cons_append]
          repeat' (first | (apply R.is1; (apply R.isCall; (apply R.callV; (iterate 3 exact rfl); intro w1 hw1; have h9 := out_ok r' st3.s (rnC st3) _ _ w1 (hw1.get _ _ (At.mem (by exact At.head))); rw [← hsw] at h9; exact h9))) | (apply R.is0; (apply R.store; (iterate 4 exact rfl); exact hls; exact hone; (focus (repeat' first | exact Upd.head | apply Upd.tail | apply Upd.right); done); exact hset _ rfl)) | apply R.nil | (apply T.is; apply T.ret))
          apply RetOk.c
          exact rfl
          apply Ld.ownk
          exact rfl
          exact rfl
          (focus (repeat' first | exact At.head | apply At.tail | apply At.right); done)
          exact hsub
          rfl
set_option linter.unusedSectionVars false
section
variable {X : Cx} {σ : Env} {L L' Li Lr : Lst} {d : Option Nat} {dd c : Nat} {ty : TypeId} {pos : String} {af : Array Edge} {g : Option (Nat × Bool)} {x y : Operand} {t t2 e : TypeId} {r r2 re : TRow}
variable {all : Array Oper} {rest : List Oper} {K : Env → Lst → Prop} {p : Option Addr} {n m cap i b : Nat}
/-- An array's variable, cut to a slice of all of it. -/
theorem Ok1.sliceArr {o : Nat} (ht : X.tb.row t = some r) (hk : r.k = .arr n e) (he : X.tb.row e = some re) (hx : ev σ x = some (.pointer (some ⟨b, o, none⟩))) :
    Ok1 X ⟨d, .slice t x none none none, ty, pos, af, g⟩ σ L (.slice (some ⟨b, o, none⟩) n n) := .mk fun a w ha hw => by
  have h2 := (X.tb.get ht).is
  rw [hk] at h2
  simp only [TK.is] at h2
  simp [execOp, Instr.sliceAt, run_underlying h2, ha.ev hx, Instr.sureAddr, Instr.sliceBounds, (X.tb.get he).size, Addr.add_none]
end
section
variable {X : Cx} {all : Array Oper} {C L L' : Lst} {fuel fuel' : Nat} {listed listed' : Array Bool} {K : Env → Lst → Prop} {σ σ' : Env}
end
section
variable {X : Cx} {σ : Env} {L L' : Lst} {d : Option Nat} {dd b : Nat} {ty : TypeId} {pos : String} {af : Array Edge} {g : Option (Nat × Bool)} {x : Operand} {t e : TypeId} {r re : TRow}
variable {all : Array Oper} {rest : List Oper} {K : Env → Lst → Prop}
theorem ovsome {sz n : Nat} {ov : Ov} {xs : List Value} (h : OvOk sz ov n xs) (hn : 0 < n) : ∃ b j k, ov = some (b, j, k) := by
  cases ov with
  | none => have := h.2; omega
  | some z => obtain ⟨b, j, k⟩ := z; exact ⟨b, j, k, rfl⟩
end
def len4 (n : Int) : List Int := [n / 16777216 % 256, n / 65536 % 256, n / 256 % 256, n % 256]
theorem len4_byt (n : Int) : Byt (len4 n) := by
  intro y hy
  simp only [len4, List.mem_cons, List.not_mem_nil, or_false] at hy
  rcases hy with rfl | rfl | rfl | rfl <;> omega
theorem cellsE_slV (ov : Ov) (n : Nat) : cellsE (slV ov n) = some [slV ov n] := by cases ov <;> rfl
theorem one_slV (ov : Ov) (n : Nat) : [slV ov n].all Value.oneCell' = true := by cases ov <;> rfl
def numI (s : Nat) (n : Int) : List Int := match s with
  | 0 => [n % 256]
  | 1 => [n / 256 % 256, n % 256]
  | _ => len4 n
theorem num_byt (s : Nat) (n : Int) : Byt (numI s n) := by
  unfold numI
  split
  · intro y hy; rw [List.mem_singleton.1 hy]; omega
  · intro y hy; simp only [List.mem_cons, List.not_mem_nil, or_false] at hy; rcases hy with rfl | rfl <;> omega
  · exact len4_byt n
theorem width_ok (s v : Int) (h0 : 0 ≤ s) (h1 : s ≤ 10) (h : IntKind.i64.wrap (1 * pw s.toNat) = v) : CallP Tryz.prog 249 [.int .i64 s] (.int .i64 v) := by
  refine enterP (tb := tb) Tryz.func249 rfl Tryz.ntmps249 rfl fun w => ?_
  have hb : s.toNat ≤ IntKind.i64.bits := by show s.toNat ≤ 64; omega
  repeat' (first | (apply R.is1; first | (apply R.isBin; (apply R.pure; exact rfl; (apply Ok1.shl; exact rfl; exact rfl; omega; exact hb; exact rfl))) | (apply R.pure; exact rfl; first | (apply Ok1.move; exact rfl) | (apply Ok1.assign; exact rfl))) | apply R.nil | (apply T.is; first | apply T.seq | apply T.region | apply T.ret))
  (apply RetOk.t; exact rfl)
  rw [h]
theorem Keep.eq1 {b : Nat} {e : TypeId} {fz : Nat × Nat} {A B : List Value} (h : A = B) : Keep [(b, .cells ⟨A⟩ e fz)] [(b, .cells ⟨B⟩ e fz)] := by subst h; (focus (repeat' first | exact Keep.nil _ | exact Ext.one _ _ | apply Keep.cons); done)
theorem number_ok (s : Nat) (n : Int) (hs : s = 0 ∨ s = 1 ∨ s = 2) (h0 : 0 ≤ n) (h1 : n ≤ 9223372036854775807) (w : World) : CallM Tryz.prog 269 [.int .i64 s, .int .i64 n] [] w fun v L => ∃ b, v = .slice (some ⟨b, 0, none⟩) (numI s n).length (numI s n).length ∧ L = [(b, .cells ⟨u8s (numI s n)⟩ 5 (0, 0))] := by
  have hc : IntKind.u64.wrap n = n := wrap_u64 h0 (by omega)
  rcases hs with rfl | rfl | rfl
  · refine enterK (tb := tb) Tryz.func269 rfl Tryz.ntmps269 rfl ?_
    repeat' (first | (apply R.is1; first | (apply R.make1 (n := 1); (iterate 9 exact rfl); omega; intro bt) | (apply R.isBin; (apply R.pure; exact rfl; first | (apply Ok1.shr; exact rfl; exact rfl; omega; exact Nat.le_of_ble_eq_true rfl; exact rfl) | (apply Ok1.add64; exact rfl; exact rfl; omega; omega) | (apply Ok1.sub64; exact rfl; exact rfl; omega; omega) | (apply Ok1.lss_t; exact rfl; exact rfl; omega) | (apply Ok1.lss_f; exact rfl; exact rfl; omega) | (apply Ok1.mul64; exact rfl; exact rfl; omega; omega))) | (apply R.isCall; first | apply R.callP rfl rfl rfl (width_ok 0 1 (by decide) (by decide) (by decide)) | (apply R.pure; exact rfl; (apply Ok1.lenS; (iterate 3 exact rfl)))) | (apply R.pure; exact rfl; first | (apply Ok1.move; exact rfl) | (apply Ok1.assign; exact rfl) | (apply Ok1.indexAddr; (iterate 5 exact rfl); omega; omega) | (apply Ok1.convU64; (iterate 5 exact rfl); omega; omega) | (apply Ok1.conv; (iterate 5 exact rfl)))) | (apply R.is0; (apply R.store; (iterate 6 exact rfl); exact Upd.head; exact rfl)) | apply R.nil | (apply T.is; first | apply T.rounds 2 | apply T.seq | apply T.region | apply T.block | apply T.skip | apply T.exit | apply T.ret | (apply T.cond_t; exact rfl) | (apply T.cond_f; exact rfl)))
    (apply RetOk.t; exact rfl)
    refine ⟨_, ?_, bt, rfl, rfl⟩
    simp only [u8_mod]
    apply Keep.eq1
    simp [numI, u8s, len4, pw]
  · refine enterK (tb := tb) Tryz.func269 rfl Tryz.ntmps269 rfl ?_
    repeat' (first | (apply R.is1; first | (apply R.make1 (n := 2); (iterate 9 exact rfl); omega; intro bt) | (apply R.isBin; (apply R.pure; exact rfl; first | (apply Ok1.shr; exact rfl; exact rfl; omega; exact Nat.le_of_ble_eq_true rfl; exact rfl) | (apply Ok1.add64; exact rfl; exact rfl; omega; omega) | (apply Ok1.sub64; exact rfl; exact rfl; omega; omega) | (apply Ok1.lss_t; exact rfl; exact rfl; omega) | (apply Ok1.lss_f; exact rfl; exact rfl; omega) | (apply Ok1.mul64; exact rfl; exact rfl; omega; omega))) | (apply R.isCall; first | apply R.callP rfl rfl rfl (width_ok 1 2 (by decide) (by decide) (by decide)) | (apply R.pure; exact rfl; (apply Ok1.lenS; (iterate 3 exact rfl)))) | (apply R.pure; exact rfl; first | (apply Ok1.move; exact rfl) | (apply Ok1.assign; exact rfl) | (apply Ok1.indexAddr; (iterate 5 exact rfl); omega; omega) | (apply Ok1.convU64; (iterate 5 exact rfl); omega; omega) | (apply Ok1.conv; (iterate 5 exact rfl)))) | (apply R.is0; (apply R.store; (iterate 6 exact rfl); exact Upd.head; exact rfl)) | apply R.nil | (apply T.is; first | apply T.rounds 3 | apply T.seq | apply T.region | apply T.block | apply T.skip | apply T.exit | apply T.ret | (apply T.cond_t; exact rfl) | (apply T.cond_f; exact rfl)))
    (apply RetOk.t; exact rfl)
    refine ⟨_, ?_, bt, rfl, rfl⟩
    simp only [u8_mod]
    apply Keep.eq1
    simp [numI, u8s, len4, pw]
  · refine enterK (tb := tb) Tryz.func269 rfl Tryz.ntmps269 rfl ?_
    repeat' (first | (apply R.is1; first | (apply R.make1 (n := 4); (iterate 9 exact rfl); omega; intro bt) | (apply R.isBin; (apply R.pure; exact rfl; first | (apply Ok1.shr; exact rfl; exact rfl; omega; exact Nat.le_of_ble_eq_true rfl; exact rfl) | (apply Ok1.add64; exact rfl; exact rfl; omega; omega) | (apply Ok1.sub64; exact rfl; exact rfl; omega; omega) | (apply Ok1.lss_t; exact rfl; exact rfl; omega) | (apply Ok1.lss_f; exact rfl; exact rfl; omega) | (apply Ok1.mul64; exact rfl; exact rfl; omega; omega))) | (apply R.isCall; first | apply R.callP rfl rfl rfl (width_ok 2 4 (by decide) (by decide) (by decide)) | (apply R.pure; exact rfl; (apply Ok1.lenS; (iterate 3 exact rfl)))) | (apply R.pure; exact rfl; first | (apply Ok1.move; exact rfl) | (apply Ok1.assign; exact rfl) | (apply Ok1.indexAddr; (iterate 5 exact rfl); omega; omega) | (apply Ok1.convU64; (iterate 5 exact rfl); omega; omega) | (apply Ok1.conv; (iterate 5 exact rfl)))) | (apply R.is0; (apply R.store; (iterate 6 exact rfl); exact Upd.head; exact rfl)) | apply R.nil | (apply T.is; first | apply T.rounds 5 | apply T.seq | apply T.region | apply T.block | apply T.skip | apply T.exit | apply T.ret | (apply T.cond_t; exact rfl) | (apply T.cond_f; exact rfl)))
    (apply RetOk.t; exact rfl)
    refine ⟨_, ?_, bt, rfl, rfl⟩
    simp only [u8_mod]
    apply Keep.eq1
    simp [numI, u8s, len4, pw]
/-- A number that fits its size. -/
def Fits (s : Nat) (n : Int) : Prop := 0 ≤ n ∧ (s = 0 ∧ n ≤ 255 ∨ s = 1 ∧ n ≤ 65535 ∨ s = 2 ∧ n ≤ 4294967295)
def fldV (s : Nat) (n : Int) : List Value := [.int .i64 s, .int .i64 n, .slice none 0 0]
theorem wcheck_ok (s : Nat) (n : Int) (h : Fits s n) : CallP Tryz.prog 247 [.agg ⟨fldV s n⟩] (.int .i64 0) := by
  obtain ⟨h0, h⟩ := h
  unfold fldV
  rcases h with ⟨rfl, h1⟩ | ⟨rfl, h1⟩ | ⟨rfl, h1⟩
  · refine enterP (tb := tb) Tryz.func247 rfl Tryz.ntmps247 rfl fun w => ?_
    repeat' (first | (apply R.is1; first | (apply R.isBin; (apply R.pure; exact rfl; first | (apply Ok1.lss_t; exact rfl; exact rfl; omega) | (apply Ok1.lss_f; exact rfl; exact rfl; omega) | (apply Ok1.gtr_f; exact rfl; exact rfl; omega) | (apply Ok1.eql_f; exact rfl; exact rfl; omega))) | (apply R.isCall; (apply R.pure; exact rfl; (apply Ok1.lenS; (iterate 3 exact rfl)))) | (apply R.pure; exact rfl; first | (apply Ok1.move; exact rfl) | (apply Ok1.fieldAddr; (iterate 5 exact rfl)) | (apply Ok1.load; exact rfl; (apply Ld.own1; exact rfl; exact rfl; exact At.head; exact rfl)) | (apply Ok1.assign; exact rfl) | (apply Ok1.pick_t; exact rfl; exact rfl) | (apply Ok1.pick_f; exact rfl; exact rfl)) | (apply R.box; (iterate 3 exact rfl); intro)) | (apply R.isG; first | (apply R.guard_run; exact rfl; exact rfl) | (apply R.guard_not; (iterate 3 exact rfl))) | apply R.nil | (apply T.is; first | (apply T.drawC (id := 5) [0] (by decide); ((apply A.tk 0; exact rfl; kernel_rfl; (apply Ok1.fieldAddr; (iterate 5 exact rfl))) <;> (apply A.tk 1; exact rfl; kernel_rfl; (apply Ok1.load; exact rfl; (apply Ld.own1; exact rfl; exact rfl; exact At.head; exact rfl))) <;> ((apply A.tk 2; exact rfl; kernel_rfl; (apply Ok1.lss_f; exact rfl; exact rfl; omega))) <;> (apply A.tk 3; exact rfl; kernel_rfl; (apply Ok1.move; exact rfl)) <;> ((apply A.tkG 4; (iterate 3 exact rfl); kernel_rfl; (apply Ok1.fieldAddr; (iterate 5 exact rfl)))) <;> ((apply A.tkG 5; (iterate 3 exact rfl); kernel_rfl; (apply Ok1.load; exact rfl; (apply Ld.own1; exact rfl; exact rfl; exact At.head; exact rfl)))) <;> ((apply A.tkG 6; (iterate 3 exact rfl); kernel_rfl; (apply Ok1.lss_t; exact rfl; exact rfl; omega))) <;> ((apply A.tkG 7; (iterate 3 exact rfl); kernel_rfl; (apply Ok1.move; exact rfl))) <;> ((apply A.tkG 8; (iterate 3 exact rfl); kernel_rfl; (apply Ok1.fieldAddr; (iterate 5 exact rfl)))) <;> ((apply A.tkG 9; (iterate 3 exact rfl); kernel_rfl; (apply Ok1.load; exact rfl; (apply Ld.own1; exact rfl; exact rfl; exact At.head; exact rfl)))) <;> ((apply A.tkG 10; (iterate 3 exact rfl); kernel_rfl; (apply Ok1.fieldAddr; (iterate 5 exact rfl)))) <;> ((apply A.tkG 11; (iterate 3 exact rfl); kernel_rfl; (apply Ok1.load; exact rfl; (apply Ld.own1; exact rfl; exact rfl; exact At.head; exact rfl)))) <;> (apply A.one 12; kernel_rfl; exact rfl; (((apply R.isG; apply R.guard_run; exact rfl; exact rfl; (apply R.callP rfl rfl rfl (width_ok 0 1 (by decide) (by decide) (by decide)))))); apply R.nil; refine ⟨?_, ?_⟩; (focus ((repeat' (first | exact trivial | (refine ⟨?_, ?_⟩; exact At.head)))))) <;> ((apply A.tkG 13; (iterate 3 exact rfl); kernel_rfl; (apply Ok1.mul64; exact rfl; exact rfl; omega; omega))) <;> ((apply A.tkG 14; (iterate 3 exact rfl); kernel_rfl; (apply Ok1.shr (m := 256); exact rfl; exact rfl; omega; exact Nat.le_of_ble_eq_true rfl; exact rfl))) <;> ((apply A.tkG 15; (iterate 3 exact rfl); kernel_rfl; (apply Ok1.neq_f; exact rfl; exact rfl; omega))) <;> ((apply A.tkG 16; (iterate 3 exact rfl); kernel_rfl; (apply Ok1.pick_t; exact rfl; exact rfl))) <;> (apply A.tk 17; exact rfl; kernel_rfl; (apply Ok1.pick_f; exact rfl; exact rfl)) <;> (apply A.tk 18; exact rfl; kernel_rfl; (apply Ok1.assign; exact rfl)) <;> (apply A.done; kernel_rfl))) | apply T.seq | apply T.region | apply T.block | apply T.skip | apply T.ret | (apply T.cond_f; exact rfl)))
    (apply RetOk.t; exact rfl)
    rfl
  · refine enterP (tb := tb) Tryz.func247 rfl Tryz.ntmps247 rfl fun w => ?_
    repeat' (first | (apply R.is1; first | (apply R.isBin; (apply R.pure; exact rfl; first | (apply Ok1.lss_t; exact rfl; exact rfl; omega) | (apply Ok1.lss_f; exact rfl; exact rfl; omega) | (apply Ok1.gtr_f; exact rfl; exact rfl; omega) | (apply Ok1.eql_f; exact rfl; exact rfl; omega))) | (apply R.isCall; (apply R.pure; exact rfl; (apply Ok1.lenS; (iterate 3 exact rfl)))) | (apply R.pure; exact rfl; first | (apply Ok1.move; exact rfl) | (apply Ok1.fieldAddr; (iterate 5 exact rfl)) | (apply Ok1.load; exact rfl; (apply Ld.own1; exact rfl; exact rfl; exact At.head; exact rfl)) | (apply Ok1.assign; exact rfl) | (apply Ok1.pick_t; exact rfl; exact rfl) | (apply Ok1.pick_f; exact rfl; exact rfl)) | (apply R.box; (iterate 3 exact rfl); intro)) | (apply R.isG; first | (apply R.guard_run; exact rfl; exact rfl) | (apply R.guard_not; (iterate 3 exact rfl))) | apply R.nil | (apply T.is; first | (apply T.drawC (id := 5) [0] (by decide); ((apply A.tk 0; exact rfl; kernel_rfl; (apply Ok1.fieldAddr; (iterate 5 exact rfl))) <;> (apply A.tk 1; exact rfl; kernel_rfl; (apply Ok1.load; exact rfl; (apply Ld.own1; exact rfl; exact rfl; exact At.head; exact rfl))) <;> ((apply A.tk 2; exact rfl; kernel_rfl; (apply Ok1.lss_f; exact rfl; exact rfl; omega))) <;> (apply A.tk 3; exact rfl; kernel_rfl; (apply Ok1.move; exact rfl)) <;> ((apply A.tkG 4; (iterate 3 exact rfl); kernel_rfl; (apply Ok1.fieldAddr; (iterate 5 exact rfl)))) <;> ((apply A.tkG 5; (iterate 3 exact rfl); kernel_rfl; (apply Ok1.load; exact rfl; (apply Ld.own1; exact rfl; exact rfl; exact At.head; exact rfl)))) <;> ((apply A.tkG 6; (iterate 3 exact rfl); kernel_rfl; (apply Ok1.lss_t; exact rfl; exact rfl; omega))) <;> ((apply A.tkG 7; (iterate 3 exact rfl); kernel_rfl; (apply Ok1.move; exact rfl))) <;> ((apply A.tkG 8; (iterate 3 exact rfl); kernel_rfl; (apply Ok1.fieldAddr; (iterate 5 exact rfl)))) <;> ((apply A.tkG 9; (iterate 3 exact rfl); kernel_rfl; (apply Ok1.load; exact rfl; (apply Ld.own1; exact rfl; exact rfl; exact At.head; exact rfl)))) <;> ((apply A.tkG 10; (iterate 3 exact rfl); kernel_rfl; (apply Ok1.fieldAddr; (iterate 5 exact rfl)))) <;> ((apply A.tkG 11; (iterate 3 exact rfl); kernel_rfl; (apply Ok1.load; exact rfl; (apply Ld.own1; exact rfl; exact rfl; exact At.head; exact rfl)))) <;> (apply A.one 12; kernel_rfl; exact rfl; (((apply R.isG; apply R.guard_run; exact rfl; exact rfl; (apply R.callP rfl rfl rfl (width_ok 1 2 (by decide) (by decide) (by decide)))))); apply R.nil; refine ⟨?_, ?_⟩; (focus ((repeat' (first | exact trivial | (refine ⟨?_, ?_⟩; exact At.head)))))) <;> ((apply A.tkG 13; (iterate 3 exact rfl); kernel_rfl; (apply Ok1.mul64; exact rfl; exact rfl; omega; omega))) <;> ((apply A.tkG 14; (iterate 3 exact rfl); kernel_rfl; (apply Ok1.shr (m := 65536); exact rfl; exact rfl; omega; exact Nat.le_of_ble_eq_true rfl; exact rfl))) <;> ((apply A.tkG 15; (iterate 3 exact rfl); kernel_rfl; (apply Ok1.neq_f; exact rfl; exact rfl; omega))) <;> ((apply A.tkG 16; (iterate 3 exact rfl); kernel_rfl; (apply Ok1.pick_t; exact rfl; exact rfl))) <;> (apply A.tk 17; exact rfl; kernel_rfl; (apply Ok1.pick_f; exact rfl; exact rfl)) <;> (apply A.tk 18; exact rfl; kernel_rfl; (apply Ok1.assign; exact rfl)) <;> (apply A.done; kernel_rfl))) | apply T.seq | apply T.region | apply T.block | apply T.skip | apply T.ret | (apply T.cond_f; exact rfl)))
    (apply RetOk.t; exact rfl)
    rfl
  · refine enterP (tb := tb) Tryz.func247 rfl Tryz.ntmps247 rfl fun w => ?_
    repeat' (first | (apply R.is1; first | (apply R.isBin; (apply R.pure; exact rfl; first | (apply Ok1.lss_t; exact rfl; exact rfl; omega) | (apply Ok1.lss_f; exact rfl; exact rfl; omega) | (apply Ok1.gtr_f; exact rfl; exact rfl; omega) | (apply Ok1.eql_f; exact rfl; exact rfl; omega))) | (apply R.isCall; (apply R.pure; exact rfl; (apply Ok1.lenS; (iterate 3 exact rfl)))) | (apply R.pure; exact rfl; first | (apply Ok1.move; exact rfl) | (apply Ok1.fieldAddr; (iterate 5 exact rfl)) | (apply Ok1.load; exact rfl; (apply Ld.own1; exact rfl; exact rfl; exact At.head; exact rfl)) | (apply Ok1.assign; exact rfl) | (apply Ok1.pick_t; exact rfl; exact rfl) | (apply Ok1.pick_f; exact rfl; exact rfl)) | (apply R.box; (iterate 3 exact rfl); intro)) | (apply R.isG; first | (apply R.guard_run; exact rfl; exact rfl) | (apply R.guard_not; (iterate 3 exact rfl))) | apply R.nil | (apply T.is; first | (apply T.drawC (id := 5) [0] (by decide); ((apply A.tk 0; exact rfl; kernel_rfl; (apply Ok1.fieldAddr; (iterate 5 exact rfl))) <;> (apply A.tk 1; exact rfl; kernel_rfl; (apply Ok1.load; exact rfl; (apply Ld.own1; exact rfl; exact rfl; exact At.head; exact rfl))) <;> ((apply A.tk 2; exact rfl; kernel_rfl; (apply Ok1.lss_f; exact rfl; exact rfl; omega))) <;> (apply A.tk 3; exact rfl; kernel_rfl; (apply Ok1.move; exact rfl)) <;> ((apply A.tkG 4; (iterate 3 exact rfl); kernel_rfl; (apply Ok1.fieldAddr; (iterate 5 exact rfl)))) <;> ((apply A.tkG 5; (iterate 3 exact rfl); kernel_rfl; (apply Ok1.load; exact rfl; (apply Ld.own1; exact rfl; exact rfl; exact At.head; exact rfl)))) <;> ((apply A.tkG 6; (iterate 3 exact rfl); kernel_rfl; (apply Ok1.lss_t; exact rfl; exact rfl; omega))) <;> ((apply A.tkG 7; (iterate 3 exact rfl); kernel_rfl; (apply Ok1.move; exact rfl))) <;> ((apply A.tkG 8; (iterate 3 exact rfl); kernel_rfl; (apply Ok1.fieldAddr; (iterate 5 exact rfl)))) <;> ((apply A.tkG 9; (iterate 3 exact rfl); kernel_rfl; (apply Ok1.load; exact rfl; (apply Ld.own1; exact rfl; exact rfl; exact At.head; exact rfl)))) <;> ((apply A.tkG 10; (iterate 3 exact rfl); kernel_rfl; (apply Ok1.fieldAddr; (iterate 5 exact rfl)))) <;> ((apply A.tkG 11; (iterate 3 exact rfl); kernel_rfl; (apply Ok1.load; exact rfl; (apply Ld.own1; exact rfl; exact rfl; exact At.head; exact rfl)))) <;> (apply A.one 12; kernel_rfl; exact rfl; (((apply R.isG; apply R.guard_run; exact rfl; exact rfl; (apply R.callP rfl rfl rfl (width_ok 2 4 (by decide) (by decide) (by decide)))))); apply R.nil; refine ⟨?_, ?_⟩; (focus ((repeat' (first | exact trivial | (refine ⟨?_, ?_⟩; exact At.head)))))) <;> ((apply A.tkG 13; (iterate 3 exact rfl); kernel_rfl; (apply Ok1.mul64; exact rfl; exact rfl; omega; omega))) <;> ((apply A.tkG 14; (iterate 3 exact rfl); kernel_rfl; (apply Ok1.shr (m := 4294967296); exact rfl; exact rfl; omega; exact Nat.le_of_ble_eq_true rfl; exact rfl))) <;> ((apply A.tkG 15; (iterate 3 exact rfl); kernel_rfl; (apply Ok1.neq_f; exact rfl; exact rfl; omega))) <;> ((apply A.tkG 16; (iterate 3 exact rfl); kernel_rfl; (apply Ok1.pick_t; exact rfl; exact rfl))) <;> (apply A.tk 17; exact rfl; kernel_rfl; (apply Ok1.pick_f; exact rfl; exact rfl)) <;> (apply A.tk 18; exact rfl; kernel_rfl; (apply Ok1.assign; exact rfl)) <;> (apply A.done; kernel_rfl))) | apply T.seq | apply T.region | apply T.block | apply T.skip | apply T.ret | (apply T.cond_f; exact rfl)))
    (apply RetOk.t; exact rfl)
    rfl
theorem fout_ok (s : Nat) (n : Int) (h : Fits s n) (w : World) : CallM Tryz.prog 248 [.agg ⟨fldV s n⟩] [] w fun v L => ∃ b, v = .slice (some ⟨b, 0, none⟩) (numI s n).length (numI s n).length ∧ L = [(b, .cells ⟨u8s (numI s n)⟩ 5 (0, 0))] := by
  have hs : s = 0 ∨ s = 1 ∨ s = 2 := by unfold Fits at h; omega
  have hn : n ≤ 9223372036854775807 := by unfold Fits at h; omega
  have hnum := fun w1 => number_ok s n hs h.1 hn w1
  unfold fldV
  refine enterK (tb := tb) Tryz.func248 rfl Tryz.ntmps248 rfl ?_
  repeat' (first | (apply R.is1; first | (apply R.isBin; (apply R.pure; exact rfl; (apply Ok1.eql_f; exact rfl; exact rfl; omega))) | (apply R.isCall; (apply R.callE; (iterate 3 exact rfl); exact Ext.none _; intro w1 hw1; exact hnum w1; rintro v Lo ⟨b, rfl, rfl⟩)) | (apply R.pure; exact rfl; first | (apply Ok1.fieldAddr; (iterate 5 exact rfl)) | (apply Ok1.load; exact rfl; (apply Ld.own1; exact rfl; exact rfl; exact At.head; exact rfl)) | (apply Ok1.assign; exact rfl)) | (apply R.box; (iterate 3 exact rfl); intro)) | apply R.nil | (apply T.is; first | apply T.seq | apply T.region | apply T.skip | apply T.ret | (apply T.cond_f; exact rfl)))
  (apply RetOk.t; exact rfl)
  exact ⟨_, by (focus (repeat' first | exact Keep.nil _ | exact Ext.one _ _ | apply Keep.cons); done), b, rfl, rfl⟩
/-- A writer that has written, without an error. -/
def WL (bw : Nat) (ov : Ov) (bs : List Int) : Lst := (bw, .cells ⟨[slV ov bs.length, .int .i64 0]⟩ 287 (0, 0)) :: blkL 5 ov (u8s bs)
def WRes (bw : Nat) (bs : List Int) (v : Value) (L : Lst) : Prop := ∃ ov, v = .pointer (some ⟨bw, 0, none⟩) ∧ OvOk 1 ov bs.length (u8s bs) ∧ L = WL bw ov bs
theorem num_len (s : Nat) (n : Int) : 1 ≤ (numI s n).length ∧ (numI s n).length ≤ 4 := by unfold numI len4; split <;> simp
theorem put_ok (bw : Nat) (ov : Ov) (bs : List Int) (hov : OvOk 1 ov bs.length (u8s bs)) (s : Nat) (n : Int) (h : Fits s n) (hbig : bs.length ≤ 1000) (bf : Nat) (fz : Nat × Nat) (e : TypeId) (w : World) (hb : w.heap[bf]? = some (.cells ⟨fldV s n⟩ e fz)) (hoff : bf ∉ blks (WL bw ov bs)) :
    CallM Tryz.prog 200 [.pointer (some ⟨bw, 0, none⟩), .slice (some ⟨bf, 0, none⟩) 1 1] (WL bw ov bs) w (WRes bw (bs ++ numI s n)) := by
  have hck := wcheck_ok s n h
  have hfo := fun w1 => fout_ok s n h w1
  have hnl := num_len s n
  unfold WRes
  generalize numI s n = nb at *
  refine enterK (tb := tb) Tryz.func200 rfl Tryz.ntmps200 rfl ?_
  obtain ⟨S, hS⟩ : ∃ S, S = blks (WL bw ov bs) := ⟨_, rfl⟩
  rw [← hS] at hoff ⊢
  simp only [WL, fldV] at hb hck hfo ⊢
  repeat' (first | (apply R.is1; first | (apply R.isBin; (apply R.pure; exact rfl; first | (apply Ok1.add64; exact rfl; exact rfl; omega; omega) | (apply Ok1.lss_t; exact rfl; exact rfl; omega) | (apply Ok1.lss_f; exact rfl; exact rfl; omega) | (apply Ok1.gtr_f; exact rfl; exact rfl; omega) | (apply Ok1.neq_f; exact rfl; exact rfl; omega) | (apply Ok1.eqlP; (iterate 5 exact rfl)))) | (apply R.isCall; first | apply R.callP rfl rfl rfl hck | (apply R.callE; (iterate 3 exact rfl); exact Ext.none _; intro w1 hw1; exact hfo w1; rintro v Lo ⟨b7, rfl, rfl⟩) | (apply R.pure; exact rfl; apply Ok1.lenOv; (iterate 3 exact rfl); exact hov) | (apply R.appendRd (xs := nb) (v := u8V) (sz := 1) (ov := ov) (n := bs.length) (old := u8s bs); (iterate 12 exact rfl); exact hov; (focus (repeat' first | exact Ext.all _ | apply Ext.cons); done); exact rfl; exact u8V_len; exact rfl; (intro w1 hw1; exact RdSl.of (junk := []) hw1 (by exact At.head) (by rw [fl_u8, List.append_nil])); (focus (rw [fl_u8]; exact u8s_one nb)); omega; intro ov1 hov1 hsome; rw [fl_u8, ← u8s_app, ← List.length_append]; rw [fl_u8, ← u8s_app, ← List.length_append] at hov1) | (apply R.pure; exact rfl; (apply Ok1.lenS; (iterate 3 exact rfl)))) | (apply R.pure; exact rfl; first | (apply Ok1.move; exact rfl) | (apply Ok1.fieldAddr; (iterate 5 exact rfl)) | (apply Ok1.load; exact rfl; first | (apply Ld.own1; exact rfl; exact rfl; (focus (repeat' first | exact At.head | apply At.tail); done); exact rfl) | (apply Ld.ownk; exact rfl; exact rfl; (focus (repeat' first | exact At.head | apply At.tail); done); exact rfl) | (apply Ld.blkk; exact rfl; exact rfl; assumption; (assumption); exact rfl)) | (apply Ok1.assign; exact rfl) | (apply Ok1.indexAddr; (iterate 5 exact rfl); omega; omega) | (apply Ok1.nilCheck; exact rfl)) | (apply R.alloc; (iterate 3 exact rfl); intro)) | (apply R.is0; first | (apply R.store; (iterate 3 exact rfl); exact cellsE_slV _ _; exact rfl; exact one_slV _ _; (focus (repeat' first | exact Upd.head | apply Upd.tail | apply Upd.right); done); exact rfl) | (apply R.store; (iterate 6 exact rfl); (focus (repeat' first | exact Upd.head | apply Upd.tail); done); exact rfl)) | apply R.nil | (apply T.is; first | apply T.rounds 3 | apply T.seq | apply T.region | apply T.block | apply T.scope | apply T.label | apply T.skip | apply T.exit | apply T.ret | (apply T.cond_t; exact rfl) | (apply T.cond_f; exact rfl)))
  (apply RetOk.t; exact rfl)
  refine ⟨_, ?_, ov1, rfl, hov1, rfl⟩
  (focus (repeat' first | exact Ext.one _ _ | exact Ext.here _ _ | apply Keep.cons | apply Keep.last | apply Ext.cons | apply Ext.app); done)
theorem number1_ok (bw : Nat) (ov : Ov) (bs : List Int) (hov : OvOk 1 ov bs.length (u8s bs)) (s : Nat) (n : Int) (h : Fits s n) (hbig : bs.length ≤ 1000) (bl : Nat) (fz : Nat × Nat) (e : TypeId) (w : World) (hb : w.heap[bl]? = some (.cells ⟨[.int .i64 n]⟩ e fz)) (hoff : bl ∉ blks (WL bw ov bs)) :
    CallM Tryz.prog 147 [.pointer (some ⟨bw, 0, none⟩), .int .i64 s, .slice (some ⟨bl, 0, none⟩) 1 1] (WL bw ov bs) w (WRes bw (bs ++ numI s n)) := by
  have hput := fun bf fz e w1 => put_ok bw ov bs hov s n h hbig bf fz e w1
  unfold WRes at hput ⊢
  generalize bs ++ numI s n = nb at *
  refine enterK (tb := tb) Tryz.func147 rfl Tryz.ntmps147 rfl ?_
  obtain ⟨S, hS⟩ : ∃ S, S = blks (WL bw ov bs) := ⟨_, rfl⟩
  rw [← hS] at hoff ⊢
  repeat' (first | (apply R.is1; first | (apply R.isBin; (apply R.pure; exact rfl; first | (apply Ok1.add64; exact rfl; exact rfl; omega; omega) | (apply Ok1.lss_t; exact rfl; exact rfl; omega) | (apply Ok1.lss_f; exact rfl; exact rfl; omega))) | (apply R.isCall; first | (apply R.callE (Li := WL bw ov bs); (iterate 3 exact rfl); (focus (repeat' first | exact Ext.all _ | apply Ext.cons); done); intro w1 hw1; exact hput _ _ _ w1 (hw1.get _ _ (At.mem (by exact At.head))) (RdSl.off hw1 (by (focus (repeat' first | exact Ext.all _ | apply Ext.cons); done)) (At.mem (by exact At.head))); rintro v Lo ⟨ov1, rfl, hov1, rfl⟩) | (apply R.pure; exact rfl; (apply Ok1.lenS; (iterate 3 exact rfl)))) | (apply R.pure; exact rfl; first | (apply Ok1.move; exact rfl) | (apply Ok1.load; exact rfl; (apply Ld.blk1; exact rfl; exact rfl; assumption; (assumption); exact rfl)) | (apply Ok1.assign; exact rfl) | (apply Ok1.indexAddr; (iterate 5 exact rfl); omega; omega) | (apply Ok1.build; (iterate 5 exact rfl))) | (apply R.buildSlice; (iterate 12 exact rfl); intro)) | apply R.nil | (apply T.is; first | apply T.rounds 3 | apply T.seq | apply T.region | apply T.block | apply T.skip | apply T.exit | apply T.ret | (apply T.cond_t; exact rfl) | (apply T.cond_f; exact rfl)))
  (apply RetOk.t; exact rfl)
  refine ⟨_, ?_, ov1, rfl, hov1, rfl⟩
  (focus (repeat' first | exact Ext.one _ _ | exact Ext.here _ _ | apply Keep.cons | apply Keep.last); done)
theorem wout_ok (bw : Nat) (ov : Ov) (bs : List Int) (hov : OvOk 1 ov bs.length (u8s bs)) (hbig : bs.length ≤ 1000000) (w : World) (hb : w.heap[bw]? = some (.cells ⟨[slV ov bs.length, .int .i64 0]⟩ 287 (0, 0))) (hr : RdSl w (ovp ov) u8V bs) :
    CallM Tryz.prog 148 [.pointer (some ⟨bw, 0, none⟩)] [] w fun v L => ∃ ov', OvOk 1 ov' bs.length (u8s bs) ∧ v = .tuple #[slV ov' bs.length, .int .i64 0] ∧ L = blkL 5 ov' (u8s bs) := by
  rw [slV_eq hov] at hb
  refine enterK (tb := tb) Tryz.func148 rfl Tryz.ntmps148 rfl ?_
  have hcl := fun w1 (hc : Chg [] w w1) => clone_ok (ovp ov) bs.length (ovc ov bs.length) bs rfl (by omega) w1 (hr.chg' hc (fun _ => Off.nil _))
  repeat' (first | (apply R.is1; first | (apply R.isBin; (apply R.pure; exact rfl; first | (apply Ok1.neq_f; exact rfl; exact rfl; omega) | (apply Ok1.eqlP; (iterate 5 exact rfl)))) | (apply R.isCall; (apply R.callE; (iterate 3 exact rfl); exact Ext.none _; intro w1 hw1; exact hcl w1 hw1.chg; rintro v Lo ⟨ov2, hov2, hsome, rfl, rfl⟩)) | (apply R.pure; exact rfl; first | (apply Ok1.move; exact rfl) | (apply Ok1.fieldAddr; (iterate 5 exact rfl)) | (apply Ok1.load; exact rfl; (apply Ld.blk1; exact rfl; exact rfl; assumption; (exact List.not_mem_nil); exact rfl)) | (apply Ok1.assign; exact rfl) | (apply Ok1.nilCheck; exact rfl))) | apply R.nil | (apply T.is; first | apply T.seq | apply T.region | apply T.block | apply T.skip | apply T.ret | (apply T.cond_f; exact rfl)))
  (apply RetOk.tt; exact rfl; exact rfl)
  exact ⟨_, by (focus (repeat' first | exact Ext.here _ _ | apply Keep.last); done), ov2, hov2, rfl, rfl⟩
section
variable {X : Cx} {σ : Env} {L : Lst} {ty t : TypeId} {pos : String} {af : Array Edge} {x y : Operand} {r : TRow}
end
section
variable {X : Cx} {σ : Env} {L : Lst} {ty t : TypeId} {pos : String} {af : Array Edge} {x y : Operand} {r : TRow} {xs ys : List Value} {ks : List TK}
theorem Ok1.eqlFq2 {d : Option Nat} {g : Option (Nat × Bool)} {ty2 : TypeId} {q : Bool} (hx : ev σ x = some (.agg ⟨xs⟩)) (hy : ev σ y = some (.agg ⟨ys⟩)) (ht : X.tb.row t = some r) (hk : r.k.agg = some true) (hf : flatE X.tb 8 t = some ks) (h1 : allOk ks xs = true) (h2 : allOk ks ys = true) (hq : xs = ys ↔ q = true) :
    Ok1 X ⟨d, .binOp .eql t x y ty2, ty, pos, af, g⟩ σ L (.bool q) := by
  have h := Ok1.eqlF (X := X) (L := L) (ty2 := ty2) (d := d) (ty := ty) (pos := pos) (af := af) (g := g) hx hy ht hk hf h1 h2
  have e : ∀ (i : Decidable (xs = ys)), @decide (xs = ys) i = q := by intro i; cases q <;> simp_all
  rw [e] at h
  exact h
end
section
variable {X : Cx} {Q : Post} {σ : Env} {L : Lst}
end
theorem CallW.toM {P : Program} {f : FuncId} {vs : List Value} {w : World} {v : Value} (h : CallW P f vs w fun x _ => x = v) : CallM P f vs [] w fun x L => x = v ∧ L = [] :=
  ⟨fun _ => h.run.mono fun e w' ⟨x, h1, h2, h3⟩ => ⟨x, [], h1, ⟨h2, rfl⟩, ⟨h3, by simp, by simp, by simp⟩⟩⟩

section
variable {X : Cx} {σ : Env} {L Lr : Lst} {d : Option Nat} {dd : Nat} {ty : TypeId} {pos : String} {af : Array Edge} {g : Option (Nat × Bool)} {x y : Operand} {t t2 e : TypeId} {r r2 re : TRow}
variable {all : Array Oper} {rest : List Oper} {K : Env → Lst → Prop} {p : Option Addr} {n cap i : Nat}
end
section
variable {X : Cx} {σ : Env} {L Lr : Lst} {d : Option Nat} {ty : TypeId} {pos : String} {af : Array Edge} {g : Option (Nat × Bool)} {x : Operand} {t e : TypeId} {r re : TRow} {p : Option Addr} {n m cap b o i : Nat}
theorem Ok1.sliceArrTo {hi : Operand} (ht : X.tb.row t = some r) (hk : r.k = .arr n e) (he : X.tb.row e = some re) (hx : ev σ x = some (.pointer (some ⟨b, o, none⟩))) (hh : ev σ hi = some (.int .i64 i)) (h1 : i ≤ n) :
    Ok1 X ⟨d, .slice t x none (some hi) none, ty, pos, af, g⟩ σ L (.slice (some ⟨b, o, none⟩) i n) := .mk fun a w ha hw => by
  have h2 := (X.tb.get ht).is
  rw [hk] at h2
  simp only [TK.is] at h2
  have h6 : ((i : Int) ≤ (n : Int)) := by omega
  simp [execOp, Instr.sliceAt, run_underlying h2, ha.ev hx, ha.ev hh, Instr.sureAddr, Instr.sliceBounds, Instr.sliceBound, asIntOf, (X.tb.get he).size, Addr.add_none, h1, h6]
theorem Ok1.arrAt (ht : X.tb.row t = some r) (hk : r.k = .arr n e) (hx : ev σ x = some (.slice p m cap)) (h1 : n ≤ m) :
    Ok1 X ⟨d, .sliceToArrayPointer t x, ty, pos, af, g⟩ σ L (.pointer p) := .mk fun a w ha hw => by
  have h2 := (X.tb.get ht).is
  rw [hk] at h2
  simp only [TK.is] at h2
  have h3 : ¬ (m < n) := by omega
  simp [execOp, Instr.arrayAt, run_underlying h2, ha.ev hx, h3]
end
def iV (x : Int) : List Value := [.int .i64 x]
theorem iV_len (x : Int) : (iV x).length = 1 := rfl
def iis (xs : List Int) : List Value := xs.map fun x => .int .i64 x
theorem iis_len (xs : List Int) : (iis xs).length = xs.length := by simp [iis]
theorem iis_one (xs : List Int) : (iis xs).all Value.oneCell' = true := by simp [iis, Value.oneCell']
theorem iis_app (xs ys : List Int) : iis (xs ++ ys) = iis xs ++ iis ys := by simp [iis]
theorem fl_i (xs : List Int) : fl iV xs = iis xs := by
  unfold fl iis
  induction xs with
  | nil => rfl
  | cons a l ih => simp only [List.map_cons, List.flatten_cons, ih]; rfl
theorem irdown {ov : Ov} {xs : List Int} {e : Nat} (hov : OvOk 1 ov xs.length (iis xs)) {w0 w : World} {S : List Nat} {L : Lst} (hw : Hp w0 S L w) (hin : ∀ x ∈ blkL e ov (iis xs), x ∈ L) : RdSl w (ovp ov) iV xs := by
  rw [← fl_i] at hov hin
  exact RdSl.own' hw hin hov iV_len
/-- A log: nothing, or a slice of one's own. -/
structure Lg where
  ov : Ov
  xs : List Int
def Lg.v (g : Lg) : Value := slV g.ov g.xs.length
def Lg.L (g : Lg) : Lst := blkL 3 g.ov (iis g.xs)
def Lg.ok (g : Lg) : Prop := OvOk 1 g.ov g.xs.length (iis g.xs)
theorem Lg.v_eq {g : Lg} (h : g.ok) : g.v = .slice (ovp g.ov) g.xs.length (ovc g.ov g.xs.length) := slV_eq h
def lg0 : Lg := ⟨none, []⟩
theorem lg0_ok : lg0.ok := ⟨rfl, rfl⟩
theorem Lg.rd {g : Lg} (h : g.ok) {w0 w : World} {S : List Nat} {L : Lst} (hw : Hp w0 S L w) (hin : ∀ x ∈ g.L, x ∈ L) : RdSl w (ovp g.ov) iV g.xs := irdown h hw hin
theorem irdnone {n : Nat} {xs : List Int} {w : World} (hn : n = xs.length) (h : RdSl w none iV xs) : n = 0 := by
  rcases h with h | ⟨b, o, h, _⟩
  · rw [hn, h]; rfl
  · cases h
theorem iclone_ok (p : Option Addr) (n cap : Nat) (xs : List Int) (hn : n = xs.length) (hbig : n ≤ 1000000000) (w : World) (hp : RdSl w p iV xs) : CallM Tryz.prog 168 [.slice p n cap] [] w fun v L => ∃ ov, OvOk 1 ov n (iis xs) ∧ ov.isSome = p.isSome ∧ v = slV ov n ∧ L = blkL 3 ov (iis xs) := by
  refine enterK (tb := tb) Tryz.func168 rfl Tryz.ntmps168 rfl ?_
  cases p with
  | none =>
    have h0 := irdnone hn hp
    have hx : xs = [] := List.eq_nil_of_length_eq_zero (by omega)
    subst hx
    repeat' (first | (apply R.is1; first | (apply R.isBin; (apply R.pure; exact rfl; (apply Ok1.eqlS; (iterate 5 exact rfl)))) | (apply R.pure; exact rfl; first | (apply Ok1.move; exact rfl) | (apply Ok1.assign; exact rfl))) | apply R.nil | (apply T.is; first | apply T.seq | apply T.region | apply T.ret | (apply T.cond_t; exact rfl)))
    (apply RetOk.t; exact rfl)
    exact ⟨_, by (focus ((repeat' (exact Keep.nil _)); done)), none, by rw [h0]; exact OvOk.start 1, rfl, rfl, rfl⟩
  | some a =>
    repeat' (first | (apply R.is1; first | (apply R.buildSlice0; (iterate 4 exact rfl); intro b0) | (apply R.isBin; (apply R.pure; exact rfl; (apply Ok1.eqlS; (iterate 5 exact rfl)))) | (apply R.isCall; (apply R.appendRd (xs := xs) (v := iV) (sz := 1) (ov := some (b0, 0, [])) (n := 0) (old := []); (iterate 12 exact rfl); exact ⟨rfl, rfl⟩; (focus ((repeat' (exact Ext.one _ _)); done)); exact hn; exact iV_len; exact rfl; (intro w1 hw1; exact hp.chg hw1.chg (Off.nil _)); (focus (rw [fl_i]; exact iis_one xs)); omega; intro ov1 hov1 hsome)) | (apply R.pure; exact rfl; first | (apply Ok1.move; exact rfl) | (apply Ok1.assign; exact rfl))) | apply R.nil | (apply T.is; first | apply T.seq | apply T.region | apply T.skip | apply T.ret | (apply T.cond_f; exact rfl)))
    rw [Nat.zero_add, List.nil_append, fl_i] at hov1
    rw [Nat.zero_add, List.nil_append, fl_i]
    repeat' (fail)
    (apply RetOk.t; exact rfl)
    refine ⟨_, ?_, ov1, hov1, by rw [hsome rfl]; rfl, rfl, rfl⟩
    (focus (repeat' first | exact Ext.here _ _ | apply Keep.last); done)
theorem igrow_ok (n : Nat) (hbig : n ≤ 1000000000) (w : World) : CallM Tryz.prog 159 [.slice none 0 0, .int .i64 n] [] w fun v L => ∃ ov, OvOk 1 ov 0 [] ∧ v = slV ov 0 ∧ L = blkL 3 ov [] := by
  refine enterK (tb := tb) Tryz.func159 rfl Tryz.ntmps159 rfl ?_
  rcases Nat.eq_zero_or_pos n with h0 | h0
  · subst h0
    repeat' (first | (apply R.is1; first | (apply R.isBin; (apply R.pure; exact rfl; first | (apply Ok1.sub64; exact rfl; exact rfl; omega; omega) | (apply Ok1.lss_f; exact rfl; exact rfl; omega) | (apply Ok1.gtr_f; exact rfl; exact rfl; omega))) | (apply R.isCall; (apply R.pure; exact rfl; (apply Ok1.lenS; (iterate 3 exact rfl)))) | (apply R.pure; exact rfl; first | (apply Ok1.capS; (iterate 3 exact rfl)) | (apply Ok1.move; exact rfl) | (apply Ok1.assign; exact rfl))) | apply R.nil | (apply T.is; first | apply T.seq | apply T.region | apply T.skip | apply T.ret | (apply T.cond_f; exact rfl)))
    (apply RetOk.t; exact rfl)
    exact ⟨_, by (focus ((repeat' (exact Keep.nil _)); done)), none, OvOk.start 1, rfl, rfl⟩
  · repeat' (first | (apply R.is1; first | (apply R.isBin; (apply R.pure; exact rfl; first | (apply Ok1.sub64; exact rfl; exact rfl; omega; omega) | (apply Ok1.lss_f; exact rfl; exact rfl; omega) | (apply Ok1.gtr_t; exact rfl; exact rfl; omega))) | (apply R.isCall; first | (apply R.growMk (n := n); (iterate 12 exact rfl); omega; omega; intro b0 j0) | (apply R.pure; exact rfl; (apply Ok1.lenS; (iterate 3 exact rfl)))) | (apply R.pure; exact rfl; first | (apply Ok1.capS; (iterate 3 exact rfl)) | (apply Ok1.move; exact rfl) | (apply Ok1.assign; exact rfl) | (apply Ok1.slice0; (iterate 7 exact rfl); (refine ⟨?_, ?_, ?_⟩ <;> omega); (exact Or.inl rfl)) | (apply Ok1.sliceTo; (iterate 6 exact rfl); omega; omega; omega; (exact Or.inl rfl)))) | apply R.nil | (apply T.is; first | apply T.seq | apply T.region | apply T.skip | apply T.ret | (apply T.cond_t; exact rfl) | (apply T.cond_f; exact rfl)))
    (apply RetOk.t; exact rfl)
    refine ⟨_, ?_, some (b0, n + j0, List.replicate (n + j0) (.int .i64 0)), ⟨rfl, by simp⟩, by simp [slV]; omega, rfl⟩
    simp only [blkL, List.nil_append]
    (focus (repeat' first | exact Keep.nil _ | exact Ext.one _ _ | apply Keep.cons); done)
/-- A part: a slice of integers. -/
structure Pi where
  p : Option Addr
  cap : Nat
  xs : List Int
deriving Inhabited
def Pi.v (x : Pi) : List Value := [.slice x.p x.xs.length x.cap]
theorem Pi.v_len (x : Pi) : x.v.length = 1 := rfl
def icat (ps : List Pi) : List Int := ps.flatMap (·.xs)
theorem icat_nil : icat [] = [] := rfl
theorem icat_snoc {ps : List Pi} {i : Nat} {x : Pi} (h : ps[i]? = some x) : icat (ps.take (i + 1)) = icat (ps.take i) ++ x.xs := by
  unfold icat
  rw [List.take_add_one, h, List.flatMap_append]
  simp
theorem icat_le (ps : List Pi) (i : Nat) : (icat (ps.take i)).length ≤ (icat ps).length := by
  conv => rhs; rw [← List.take_append_drop i ps]
  unfold icat
  rw [List.flatMap_append, List.length_append]
  omega
theorem iconcat_ok (p : Option Addr) (n cap : Nat) (ps : List Pi) (hn : n = ps.length) (hbig : (icat ps).length ≤ 1000000000) (hbig2 : n ≤ 1000000000) (w : World) (hp : RdSl w p Pi.v ps) (hall : ∀ x ∈ ps, RdSl w x.p iV x.xs) :
    CallM Tryz.prog 87 [.slice p n cap] [] w fun v L => ∃ ov, OvOk 1 ov (icat ps).length (iis (icat ps)) ∧ v = slV ov (icat ps).length ∧ L = blkL 3 ov (iis (icat ps)) := by
  subst hn
  refine enterK (tb := tb) Tryz.func87 rfl Tryz.ntmps87 rfl ?_
  repeat' (first | (apply R.is1; first | (apply R.isCall; (apply R.pure; exact rfl; (apply Ok1.lenS; (iterate 3 exact rfl)))) | (apply R.pure; exact rfl; first | (apply Ok1.move; exact rfl) | (apply Ok1.assign; exact rfl))) | apply R.nil | (apply T.is; first | apply T.seq | apply T.region | apply T.block))
  apply T.loopK (α := Nat) (I := fun i => i ≤ ps.length) (σi := fun i => [(0, .slice p ps.length cap), (3, .int .i64 (icat (ps.take i)).length), (9, .slice p ps.length cap), (10, .int .i64 ps.length), (11, .int .i64 i)]) (Li := fun _ => []) (μ := fun i => ps.length - i) (i0 := 0)
  · exact Nat.zero_le _
  · exact ⟨rfl, rfl, rfl, rfl, rfl, trivial⟩
  · (focus ((repeat' (exact Keep.nil _)); done))
  · intro i hi
    have hle := icat_le ps i
    rcases Nat.lt_or_ge i ps.length with hlt | hge
    · obtain ⟨x, hx⟩ : ∃ x, ps[i]? = some x := ⟨_, List.getElem?_eq_getElem (by omega)⟩
      obtain ⟨b, o, hpe, H⟩ := hp.at hx
      replace H := H 1 Pi.v_len
      have hs := icat_snoc hx
      have hl := congrArg List.length hs
      rw [List.length_append] at hl
      have hle2 := icat_le ps (i + 1)
      repeat' (first | (apply R.is1; first | (apply R.isBin; (apply R.pure; exact rfl; first | (apply Ok1.add64; exact rfl; exact rfl; omega; omega) | (apply Ok1.lss_t; exact rfl; exact rfl; omega) | (apply Ok1.lss_f; exact rfl; exact rfl; omega))) | (apply R.isCall; (apply R.pure; exact rfl; (apply Ok1.lenS; (iterate 3 exact rfl)))) | (apply R.pure; exact rfl; first | (apply Ok1.indexAddrP; (iterate 4 exact rfl); exact hpe; exact rfl; omega; omega) | (apply Ok1.load; exact rfl; apply Ld.row0 H; exact rfl; exact List.not_mem_nil; (iterate 3 exact rfl)) | (apply Ok1.move; exact rfl) | (apply Ok1.assign; exact rfl))) | apply R.nil | (apply T.is; first | apply T.seq | apply T.region | apply T.block | apply T.skip | (apply T.cond_t; exact rfl) | (apply T.cond_f; exact rfl)))
      refine ⟨i + 1, by omega, by omega, ⟨rfl, ?_, rfl, rfl, rfl, trivial⟩, by (focus ((repeat' (exact Keep.nil _)); done))⟩
      rw [hl]
      rfl
    · have him : i = ps.length := by omega
      subst him
      rw [List.take_length]
      have hgr := fun w1 => igrow_ok (icat ps).length hbig w1
      repeat' (first | (apply R.is1; first | (apply R.isBin; (apply R.pure; exact rfl; (apply Ok1.lss_f; exact rfl; exact rfl; omega))) | (apply R.isCall; first | (apply R.callE; (iterate 3 exact rfl); exact Ext.none _; intro w1 hw1; exact hgr w1; rintro v Lo ⟨ov0, hov0, rfl, rfl⟩) | (apply R.pure; exact rfl; (apply Ok1.lenS; (iterate 3 exact rfl)))) | (apply R.pure; exact rfl; first | (apply Ok1.move; exact rfl) | (apply Ok1.assign; exact rfl))) | apply R.nil | (apply T.is; first | apply T.seq | apply T.region | apply T.block | apply T.exit | (apply T.cond_f; exact rfl)))
      apply T.loopK (α := Nat × Ov) (I := fun y => y.1 ≤ ps.length ∧ OvOk 1 y.2 (icat (ps.take y.1)).length (iis (icat (ps.take y.1)))) (σi := fun y => [(6, slV y.2 (icat (ps.take y.1)).length), (25, .slice p ps.length cap), (26, .int .i64 ps.length), (27, .int .i64 y.1)]) (Li := fun y => blkL 3 y.2 (iis (icat (ps.take y.1)))) (μ := fun y => ps.length - y.1) (i0 := (0, ov0))
      · exact ⟨Nat.zero_le _, hov0⟩
      · exact ⟨rfl, rfl, rfl, rfl, trivial⟩
      · simp only [List.take_zero, icat_nil]
        change Keep _ (blkL 3 ov0 [])
        (focus (repeat' first | exact Ext.here _ _ | apply Keep.last); done)
      · rintro ⟨i, ov⟩ ⟨hi, hov⟩
        simp only at hi hov ⊢
        rcases Nat.lt_or_ge i ps.length with hlt | hge
        · obtain ⟨x, hx⟩ : ∃ x, ps[i]? = some x := ⟨_, List.getElem?_eq_getElem (by omega)⟩
          obtain ⟨b, o, hpe, H⟩ := hp.at hx
          replace H := H 1 Pi.v_len
          have hs := icat_snoc hx
          have hl := congrArg List.length hs
          rw [List.length_append] at hl
          have hle2 := icat_le ps (i + 1)
          have hrd := hall x (List.mem_of_getElem? hx)
          repeat' (first | (apply R.is1; first | (apply R.isBin; (apply R.pure; exact rfl; first | (apply Ok1.add64; exact rfl; exact rfl; omega; omega) | (apply Ok1.lss_t; exact rfl; exact rfl; omega))) | (apply R.isCall; (apply R.appendRd (xs := x.xs) (v := iV) (sz := 1) (ov := ov) (n := (icat (ps.take i)).length) (old := iis (icat (ps.take i))); (iterate 12 exact rfl); exact hov; (focus ((repeat' (exact Ext.all _)); done)); exact rfl; exact iV_len; exact rfl; (intro w1 hw1; exact hrd.chg hw1.chg (Off.nil _)); (focus (rw [fl_i]; exact iis_one x.xs)); omega; intro ov1 hov1 hsome)) | (apply R.pure; exact rfl; first | (apply Ok1.indexAddrP; (iterate 4 exact rfl); exact hpe; exact rfl; omega; omega) | (apply Ok1.load; exact rfl; apply Ld.row0 H; exact rfl; exact List.not_mem_nil; (iterate 3 exact rfl)) | (apply Ok1.move; exact rfl) | (apply Ok1.assign; exact rfl))) | apply R.nil | (apply T.is; first | apply T.seq | apply T.region | apply T.block | apply T.skip | (apply T.cond_t; exact rfl)))
          rw [fl_i, ← iis_app, ← hs, ← hl] at hov1
          rw [fl_i, ← iis_app, ← hs, ← hl]
          repeat' (fail)
          exact ⟨(i + 1, ov1), ⟨by simp only; omega, hov1⟩, by simp only; omega, ⟨rfl, rfl, rfl, rfl, trivial⟩, by (focus (repeat' first | exact Ext.here _ _ | apply Keep.last); done)⟩
        · have him : i = ps.length := by omega
          subst him
          rw [List.take_length] at hov ⊢
          repeat' (first | (apply R.is1; first | (apply R.isBin; (apply R.pure; exact rfl; (apply Ok1.lss_f; exact rfl; exact rfl; omega))) | (apply R.pure; exact rfl; first | (apply Ok1.move; exact rfl) | (apply Ok1.assign; exact rfl))) | apply R.nil | (apply T.is; first | apply T.seq | apply T.region | apply T.exit | apply T.ret | (apply T.cond_f; exact rfl)))
          (apply RetOk.t; exact rfl)
          exact ⟨_, by (focus (repeat' first | exact Ext.all _ | apply Keep.last); done), ov, hov, rfl, rfl⟩
theorem idxF_ok (p : Option Addr) (n cap : Nat) (xs : List Int) (hn : n = xs.length) (hbig : n ≤ 1000000000) (g : Nat) (hgc : tb.fns.contains g = true) (bad : Int → Bool) (hg : ∀ x, CallP Tryz.prog g [.int .i64 x] (.bool (bad x))) (w : World) (hp : RdSl w p iV xs) :
    CallW Tryz.prog 207 [.slice p n cap, .func (.func g) #[] #[]] w fun v _ => ∃ r, v = .int .i64 r ∧ (0 ≤ r ↔ ∃ x ∈ xs, bad x = true) := by
  subst hn
  refine enterW (tb := tb) Tryz.func207 rfl Tryz.ntmps207 rfl ?_
  repeat' (first | (apply R.is1; first | (apply R.isCall; (apply R.pure; exact rfl; (apply Ok1.lenS; (iterate 3 exact rfl)))) | (apply R.pure; exact rfl; first | (apply Ok1.move; exact rfl) | (apply Ok1.assign; exact rfl))) | apply R.nil | (apply T.is; first | apply T.seq | apply T.region | apply T.block))
  apply T.loopK (α := Nat) (I := fun i => i ≤ xs.length ∧ ∀ x ∈ xs.take i, bad x = false) (σi := fun i => [(0, .slice p xs.length cap), (1, .func (.func g) #[] #[]), (7, .int .i64 xs.length), (8, .int .i64 i)]) (Li := fun _ => []) (μ := fun i => xs.length - i) (i0 := 0)
  · exact ⟨Nat.zero_le _, by simp⟩
  · exact ⟨rfl, rfl, rfl, rfl, trivial⟩
  · (focus ((repeat' (exact Keep.nil _)); done))
  · intro i ⟨hi, hall⟩
    rcases Nat.lt_or_ge i xs.length with hlt | hge
    · obtain ⟨x, hx⟩ : ∃ x, xs[i]? = some x := ⟨_, List.getElem?_eq_getElem (by omega)⟩
      obtain ⟨b, o, hpe, H⟩ := hp.at hx
      replace H := H 1 iV_len
      have hgx := hg x
      cases hb : bad x with
      | true =>
        rw [hb] at hgx
        repeat' (first | (apply R.is1; first | (apply R.isBin; (apply R.pure; exact rfl; (apply Ok1.lss_t; exact rfl; exact rfl; omega))) | (apply R.isCall; (apply R.callFP (fa := []) (cb := []); exact rfl; exact hgc; exact rfl; exact rfl; exact hgx)) | (apply R.pure; exact rfl; first | (apply Ok1.indexAddrP; (iterate 4 exact rfl); exact hpe; exact rfl; omega; omega) | (apply Ok1.load; exact rfl; apply Ld.row0 H; exact rfl; exact List.not_mem_nil; (iterate 3 exact rfl)) | (apply Ok1.move; exact rfl) | (apply Ok1.assign; exact rfl))) | apply R.nil | (apply T.is; first | apply T.seq | apply T.region | apply T.block | apply T.skip | apply T.ret | (apply T.cond_t; exact rfl)))
        (apply RetOk.t; exact rfl)
        exact ⟨_, rfl, ⟨fun _ => ⟨x, List.mem_of_getElem? hx, hb⟩, fun _ => by omega⟩⟩
      | false =>
        rw [hb] at hgx
        repeat' (first | (apply R.is1; first | (apply R.isBin; (apply R.pure; exact rfl; first | (apply Ok1.add64; exact rfl; exact rfl; omega; omega) | (apply Ok1.lss_t; exact rfl; exact rfl; omega))) | (apply R.isCall; (apply R.callFP (fa := []) (cb := []); exact rfl; exact hgc; exact rfl; exact rfl; exact hgx)) | (apply R.pure; exact rfl; first | (apply Ok1.indexAddrP; (iterate 4 exact rfl); exact hpe; exact rfl; omega; omega) | (apply Ok1.load; exact rfl; apply Ld.row0 H; exact rfl; exact List.not_mem_nil; (iterate 3 exact rfl)) | (apply Ok1.move; exact rfl) | (apply Ok1.assign; exact rfl))) | apply R.nil | (apply T.is; first | apply T.seq | apply T.region | apply T.block | apply T.skip | (apply T.cond_t; exact rfl) | (apply T.cond_f; exact rfl)))
        refine ⟨i + 1, ⟨by omega, ?_⟩, by omega, ⟨rfl, rfl, rfl, rfl, trivial⟩, by (focus ((repeat' (exact Keep.nil _)); done))⟩
        intro y hy
        rw [List.take_add_one, hx, List.mem_append] at hy
        rcases hy with hy | hy
        · exact hall y hy
        · simp only [Option.toList_some, List.mem_singleton] at hy
          rw [hy]; exact hb
    · have him : i = xs.length := by omega
      subst him
      rw [List.take_length] at hall
      repeat' (first | (apply R.is1; first | (apply R.isBin; (apply R.pure; exact rfl; (apply Ok1.lss_f; exact rfl; exact rfl; omega))) | (apply R.pure; exact rfl; (apply Ok1.assign; exact rfl))) | apply R.nil | (apply T.is; first | apply T.seq | apply T.region | apply T.exit | apply T.ret | (apply T.cond_f; exact rfl)))
      (apply RetOk.t; exact rfl)
      refine ⟨_, rfl, ⟨fun h => absurd h (by decide), ?_⟩⟩
      rintro ⟨x, hx, hb⟩
      rw [hall x hx] at hb
      cases hb
theorem conF_ok (p : Option Addr) (n cap : Nat) (xs : List Int) (hn : n = xs.length) (hbig : n ≤ 1000000000) (g : Nat) (hgc : tb.fns.contains g = true) (bad : Int → Bool) (hg : ∀ x, CallP Tryz.prog g [.int .i64 x] (.bool (bad x))) (w : World) (hp : RdSl w p iV xs) :
    CallW Tryz.prog 157 [.slice p n cap, .func (.func g) #[] #[]] w fun v _ => v = .bool (xs.any bad) := by
  have h := fun w1 (hc : Chg [] w w1) => idxF_ok p n cap xs hn hbig g hgc bad hg w1 (hp.chg' hc (fun _ => Off.nil _))
  refine enterW (tb := tb) Tryz.func157 rfl Tryz.ntmps157 rfl ?_
  repeat' (first | (apply R.is1; first | (apply R.isBin; (apply R.geq rfl rfl rfl <;> intro)) | (apply R.isCall; (apply R.callW (vs := [.slice p n cap, .func (.func g) #[] #[]]); (iterate 3 exact rfl); intro w1 hw1; exact h w1 hw1.chg; rintro v ⟨r, rfl, hr⟩)) | (apply R.pure; exact rfl; first | (apply Ok1.move; exact rfl) | (apply Ok1.assign; exact rfl))) | apply R.nil | (apply T.is; first | apply T.seq | apply T.region | apply T.ret))
  all_goals have hq : 0 ≤ r ↔ xs.any bad = true := hr.trans List.any_eq_true.symm
  all_goals (apply RetOk.t; exact rfl)
  all_goals cases hqq : xs.any bad with
    | true => first | rfl | (have := hq.2 hqq; omega)
    | false => first | rfl | (have h5 := hq.1 ‹0 ≤ r›; rw [hqq] at h5; cases h5)
/-- Serials are as they must be. -/
def SR (xs : List Int) : Prop := ∀ x ∈ xs, 1 ≤ x ∧ x ≤ 65535
instance (xs : List Int) : Decidable (SR xs) := by unfold SR; infer_instance
theorem serials1_ok (x : Int) : CallP Tryz.prog 158 [.int .i64 x] (.bool (decide (x < 1 ∨ 65535 < x))) := by
  refine enterP (tb := tb) Tryz.func158 rfl Tryz.ntmps158 rfl fun w => ?_
  by_cases h1 : x < 1
  · repeat' (first | (apply R.is1; first | (apply R.isBin; (apply R.pure; exact rfl; (apply Ok1.lss_t; exact rfl; exact rfl; omega))) | (apply R.pure; exact rfl; first | (apply Ok1.move; exact rfl) | (apply Ok1.assign; exact rfl) | (apply Ok1.pick_t; exact rfl; exact rfl))) | (apply R.isG; (apply R.guard_not; (iterate 3 exact rfl))) | apply R.nil | (apply T.is; first | apply T.seq | apply T.region | apply T.ret))
    (apply RetOk.t; exact rfl)
    rw [decide_eq_true (.inl h1)]
  · by_cases h2 : 65535 < x
    · repeat' (first | (apply R.is1; first | (apply R.isBin; (apply R.pure; exact rfl; first | (apply Ok1.lss_f; exact rfl; exact rfl; omega) | (apply Ok1.gtr_t; exact rfl; exact rfl; omega))) | (apply R.pure; exact rfl; first | (apply Ok1.move; exact rfl) | (apply Ok1.assign; exact rfl) | (apply Ok1.pick_f; exact rfl; exact rfl))) | (apply R.isG; (apply R.guard_run; exact rfl; exact rfl)) | apply R.nil | (apply T.is; first | apply T.seq | apply T.region | apply T.ret))
      (apply RetOk.t; exact rfl)
      rw [decide_eq_true (.inr h2)]
    · repeat' (first | (apply R.is1; first | (apply R.isBin; (apply R.pure; exact rfl; first | (apply Ok1.lss_f; exact rfl; exact rfl; omega) | (apply Ok1.gtr_f; exact rfl; exact rfl; omega))) | (apply R.pure; exact rfl; first | (apply Ok1.move; exact rfl) | (apply Ok1.assign; exact rfl) | (apply Ok1.pick_f; exact rfl; exact rfl))) | (apply R.isG; (apply R.guard_run; exact rfl; exact rfl)) | apply R.nil | (apply T.is; first | apply T.seq | apply T.region | apply T.ret))
      (apply RetOk.t; exact rfl)
      rw [decide_eq_false (by omega)]
theorem serials_ok (p : Option Addr) (n cap : Nat) (xs : List Int) (hn : n = xs.length) (hbig : n ≤ 1000000000) (w : World) (hp : RdSl w p iV xs) :
    CallW Tryz.prog 86 [.slice p n cap] w fun v _ => v = .bool (decide (SR xs)) := by
  have h := fun w1 (hc : Chg [] w w1) => conF_ok p n cap xs hn hbig 158 rfl _ serials1_ok w1 (hp.chg' hc (fun _ => Off.nil _))
  have he : (xs.any fun x => decide (x < 1 ∨ 65535 < x)) = !decide (SR xs) := by
    by_cases hs : SR xs
    · rw [decide_eq_true hs]
      cases h4 : xs.any fun x => decide (x < 1 ∨ 65535 < x) with
      | false => rfl
      | true =>
        obtain ⟨x, hx, hb⟩ := List.any_eq_true.1 h4
        have := hs x hx
        have := of_decide_eq_true hb
        omega
    · rw [decide_eq_false hs]
      cases h4 : xs.any fun x => decide (x < 1 ∨ 65535 < x) with
      | true => rfl
      | false =>
        refine absurd (fun x hx => ?_) hs
        have := List.any_eq_false.1 h4 x hx
        simp only [decide_eq_true_eq] at this
        omega
  rw [he] at h
  generalize decide (SR xs) = q at *
  refine enterW (tb := tb) Tryz.func86 rfl Tryz.ntmps86 rfl ?_
  cases q
  · repeat' (first | (apply R.is1; first | (apply R.isCall; (apply R.callV (vs := [.slice p n cap, .func (.func 158) #[] #[]]); (iterate 3 exact rfl); intro w1 hw1; exact h w1 hw1.chg)) | (apply R.pure; exact rfl; first | (apply Ok1.move; exact rfl) | (apply Ok1.assign; exact rfl) | (apply Ok1.not_t; exact rfl))) | apply R.nil | (apply T.is; first | apply T.seq | apply T.region | apply T.ret))
    (apply RetOk.t; exact rfl)
    rfl
  · repeat' (first | (apply R.is1; first | (apply R.isCall; (apply R.callV (vs := [.slice p n cap, .func (.func 158) #[] #[]]); (iterate 3 exact rfl); intro w1 hw1; exact h w1 hw1.chg)) | (apply R.pure; exact rfl; first | (apply Ok1.move; exact rfl) | (apply Ok1.assign; exact rfl) | (apply Ok1.not_f; exact rfl))) | apply R.nil | (apply T.is; first | apply T.seq | apply T.region | apply T.ret))
    (apply RetOk.t; exact rfl)
    rfl
theorem ieqs_ok (p1 p2 : Option Addr) (n1 n2 c1 c2 : Nat) (xs ys : List Int) (hn1 : n1 = xs.length) (hn2 : n2 = ys.length) (hbig : n1 ≤ 1000000000) (w : World) (h1 : RdSl w p1 iV xs) (h2 : RdSl w p2 iV ys) : CallW Tryz.prog 201 [.slice p1 n1 c1, .slice p2 n2 c2] w fun v _ => v = .bool (decide (xs = ys)) := by
  subst hn1 hn2
  refine enterW (tb := tb) Tryz.func201 rfl Tryz.ntmps201 rfl ?_
  by_cases hne : xs.length = ys.length
  · repeat' (first | (apply R.is1; first | (apply R.isBin; (apply R.pure; exact rfl; (apply Ok1.neq_f; exact rfl; exact rfl; omega))) | (apply R.isCall; (apply R.pure; exact rfl; (apply Ok1.lenS; (iterate 3 exact rfl)))) | (apply R.pure; exact rfl; first | (apply Ok1.move; exact rfl) | (apply Ok1.assign; exact rfl))) | apply R.nil | (apply T.is; first | apply T.seq | apply T.region | apply T.block | apply T.skip | (apply T.cond_f; exact rfl)))
    apply T.loopK (α := Nat) (I := fun i => i ≤ xs.length ∧ xs.take i = ys.take i) (σi := fun i => [(0, .slice p1 xs.length c1), (1, .slice p2 ys.length c2), (12, .int .i64 xs.length), (13, .int .i64 i)]) (Li := fun _ => []) (μ := fun i => xs.length - i) (i0 := 0)
    · exact ⟨Nat.zero_le _, rfl⟩
    · exact ⟨rfl, rfl, rfl, rfl, trivial⟩
    · (focus ((repeat' (exact Keep.nil _)); done))
    · intro i ⟨hi, htk⟩
      rcases Nat.lt_or_ge i xs.length with hlt | hge
      · obtain ⟨x, hx⟩ : ∃ x, xs[i]? = some x := ⟨_, List.getElem?_eq_getElem (by omega)⟩
        obtain ⟨y, hy⟩ : ∃ y, ys[i]? = some y := ⟨_, List.getElem?_eq_getElem (by omega)⟩
        obtain ⟨b1, o1, hpe1, H1⟩ := h1.at hx
        obtain ⟨b2, o2, hpe2, H2⟩ := h2.at hy
        replace H1 := H1 1 iV_len
        replace H2 := H2 1 iV_len
        by_cases hxy : x = y
        · repeat' (first | (apply R.is1; first | (apply R.isBin; (apply R.pure; exact rfl; first | (apply Ok1.add64; exact rfl; exact rfl; omega; omega) | (apply Ok1.lss_t; exact rfl; exact rfl; omega))) | (apply R.pure; exact rfl; first | (apply Ok1.move; exact rfl) | (apply Ok1.assign; exact rfl))) | apply R.nil | (apply T.is; first | (apply T.drawC (id := 6) [] (by decide); ((apply A.tk 0; exact rfl; kernel_rfl; (apply Ok1.move; exact rfl)) <;> (apply A.tk 1; exact rfl; kernel_rfl; (apply Ok1.move; exact rfl)) <;> (apply A.tk 2; exact rfl; kernel_rfl; (apply Ok1.indexAddrP; (iterate 4 exact rfl); (exact hpe1); exact rfl; omega; omega)) <;> (apply A.tk 3; exact rfl; kernel_rfl; (apply Ok1.load; exact rfl; (apply Ld.row0 H1; exact rfl; exact List.not_mem_nil; (iterate 3 exact rfl)))) <;> (apply A.tk 4; exact rfl; kernel_rfl; (apply Ok1.move; exact rfl)) <;> (apply A.tk 5; exact rfl; kernel_rfl; (apply Ok1.move; exact rfl)) <;> (apply A.tk 6; exact rfl; kernel_rfl; (apply Ok1.indexAddrP; (iterate 4 exact rfl); (exact hpe2); exact rfl; omega; omega)) <;> (apply A.tk 7; exact rfl; kernel_rfl; (apply Ok1.load; exact rfl; (apply Ld.row0 H2; exact rfl; exact List.not_mem_nil; (iterate 3 exact rfl)))) <;> ((apply A.tk 8; exact rfl; kernel_rfl; (apply Ok1.neq_f; exact rfl; exact rfl; omega))) <;> (apply A.done; kernel_rfl))) | apply T.seq | apply T.region | apply T.block | apply T.skip | (apply T.cond_t; exact rfl) | (apply T.cond_f; exact rfl)))
          refine ⟨i + 1, ⟨by omega, ?_⟩, by omega, ⟨rfl, rfl, rfl, rfl, trivial⟩, by (focus ((repeat' (exact Keep.nil _)); done))⟩
          rw [List.take_add_one, List.take_add_one, htk, hx, hy, hxy]
        · repeat' (first | (apply R.is1; first | (apply R.isBin; (apply R.pure; exact rfl; (apply Ok1.lss_t; exact rfl; exact rfl; omega))) | (apply R.pure; exact rfl; first | (apply Ok1.move; exact rfl) | (apply Ok1.assign; exact rfl))) | apply R.nil | (apply T.is; first | (apply T.drawC (id := 6) [] (by decide); ((apply A.tk 0; exact rfl; kernel_rfl; (apply Ok1.move; exact rfl)) <;> (apply A.tk 1; exact rfl; kernel_rfl; (apply Ok1.move; exact rfl)) <;> (apply A.tk 2; exact rfl; kernel_rfl; (apply Ok1.indexAddrP; (iterate 4 exact rfl); (exact hpe1); exact rfl; omega; omega)) <;> (apply A.tk 3; exact rfl; kernel_rfl; (apply Ok1.load; exact rfl; (apply Ld.row0 H1; exact rfl; exact List.not_mem_nil; (iterate 3 exact rfl)))) <;> (apply A.tk 4; exact rfl; kernel_rfl; (apply Ok1.move; exact rfl)) <;> (apply A.tk 5; exact rfl; kernel_rfl; (apply Ok1.move; exact rfl)) <;> (apply A.tk 6; exact rfl; kernel_rfl; (apply Ok1.indexAddrP; (iterate 4 exact rfl); (exact hpe2); exact rfl; omega; omega)) <;> (apply A.tk 7; exact rfl; kernel_rfl; (apply Ok1.load; exact rfl; (apply Ld.row0 H2; exact rfl; exact List.not_mem_nil; (iterate 3 exact rfl)))) <;> ((apply A.tk 8; exact rfl; kernel_rfl; (apply Ok1.neq_t; exact rfl; exact rfl; omega))) <;> (apply A.done; kernel_rfl))) | apply T.seq | apply T.region | apply T.block | apply T.skip | apply T.ret | (apply T.cond_t; exact rfl)))
          all_goals (apply RetOk.t; exact rfl)
          all_goals rw [decide_eq_false]
          intro e
          rw [e, hy] at hx
          cases hx
          exact hxy rfl
      · repeat' (first | (apply R.is1; first | (apply R.isBin; (apply R.pure; exact rfl; (apply Ok1.lss_f; exact rfl; exact rfl; omega))) | (apply R.pure; exact rfl; (apply Ok1.assign; exact rfl))) | apply R.nil | (apply T.is; first | apply T.seq | apply T.region | apply T.exit | apply T.ret | (apply T.cond_f; exact rfl)))
        (apply RetOk.t; exact rfl)
        rw [List.take_of_length_le hge, List.take_of_length_le (by omega)] at htk
        rw [decide_eq_true htk]
  · repeat' (first | (apply R.is1; first | (apply R.isBin; (apply R.pure; exact rfl; (apply Ok1.neq_t; exact rfl; exact rfl; omega))) | (apply R.isCall; (apply R.pure; exact rfl; (apply Ok1.lenS; (iterate 3 exact rfl)))) | (apply R.pure; exact rfl; first | (apply Ok1.move; exact rfl) | (apply Ok1.assign; exact rfl))) | apply R.nil | (apply T.is; first | apply T.seq | apply T.region | apply T.ret | (apply T.cond_t; exact rfl)))
    all_goals (apply RetOk.t; exact rfl)
    all_goals rw [decide_eq_false]
    exact fun e => hne (by rw [e])
def numsI (s : Nat) (xs : List Int) : List Int := xs.flatMap (numI s)
theorem nums_take {s : Nat} {xs : List Int} {i : Nat} {x : Int} (h : xs[i]? = some x) : numsI s (xs.take (i + 1)) = numsI s (xs.take i) ++ numI s x := by
  unfold numsI
  rw [List.take_add_one, h, List.flatMap_append]
  simp
theorem nums_le (s : Nat) (xs : List Int) : (numsI s xs).length ≤ 4 * xs.length := by
  induction xs with
  | nil => exact Nat.le_refl _
  | cons x l ih =>
    have := (num_len s x).2
    simp only [numsI, List.flatMap_cons, List.length_append, List.length_cons] at *
    omega
theorem numbers_ok (bw : Nat) (ov : Ov) (bs : List Int) (hov : OvOk 1 ov bs.length (u8s bs)) (s : Nat) (p : Option Addr) (n cap : Nat) (xs : List Int) (hn : n = xs.length) (hf : ∀ x ∈ xs, Fits s x) (hbig : bs.length + 4 * xs.length ≤ 1000) (w : World) (hp : RdSl w p iV xs) (hoff : xs ≠ [] → Off p (blks (WL bw ov bs))) :
    CallM Tryz.prog 147 [.pointer (some ⟨bw, 0, none⟩), .int .i64 s, .slice p n cap] (WL bw ov bs) w (WRes bw (bs ++ numsI s xs)) := by
  subst hn
  refine enterK (tb := tb) Tryz.func147 rfl Tryz.ntmps147 rfl ?_
  repeat' (first | (apply R.is1; first | (apply R.isCall; (apply R.pure; exact rfl; (apply Ok1.lenS; (iterate 3 exact rfl)))) | (apply R.pure; exact rfl; first | (apply Ok1.move; exact rfl) | (apply Ok1.assign; exact rfl))) | apply R.nil | (apply T.is; first | apply T.seq | apply T.region | apply T.block))
  apply T.loopK (α := Nat × Ov) (I := fun y => y.1 ≤ xs.length ∧ OvOk 1 y.2 (bs ++ numsI s (xs.take y.1)).length (u8s (bs ++ numsI s (xs.take y.1)))) (σi := fun y => [(0, .pointer (some ⟨bw, 0, none⟩)), (1, .int .i64 s), (9, .slice p xs.length cap), (10, .int .i64 xs.length), (11, .int .i64 y.1)]) (Li := fun y => WL bw y.2 (bs ++ numsI s (xs.take y.1))) (μ := fun y => xs.length - y.1) (i0 := (0, ov))
  · refine ⟨Nat.zero_le _, ?_⟩
    simpa [numsI] using hov
  · exact ⟨rfl, rfl, rfl, rfl, rfl, trivial⟩
  · simp only [List.take_zero, numsI, List.flatMap_nil, List.append_nil]
    (focus (repeat' first | exact Ext.one _ _ | exact Ext.all _ | apply Keep.cons | apply Keep.last); done)
  · rintro ⟨i, ov1⟩ ⟨hi, hov1⟩
    simp only at hi hov1 ⊢
    rcases Nat.lt_or_ge i xs.length with hlt | hge
    · obtain ⟨x, hx⟩ : ∃ x, xs[i]? = some x := ⟨_, List.getElem?_eq_getElem (by omega)⟩
      obtain ⟨b, o, hpe, H⟩ := hp.at hx
      replace H := H 1 iV_len
      have hxf := hf x (List.mem_of_getElem? hx)
      have htk : (xs.take i).length = i := by rw [List.length_take]; omega
      have hnl := nums_le s (xs.take i)
      have hput := fun bf fz e w1 => put_ok bw ov1 (bs ++ numsI s (xs.take i)) hov1 s x hxf (by rw [List.length_append]; omega) bf fz e w1
      have hoff1 := hoff (by rintro rfl; cases hx)
      unfold WRes at hput
      rw [List.append_assoc, ← nums_take hx] at hput
      repeat' (first | (apply R.is1; first | (apply R.isBin; (apply R.pure; exact rfl; first | (apply Ok1.add64; exact rfl; exact rfl; omega; omega) | (apply Ok1.lss_t; exact rfl; exact rfl; omega))) | (apply R.isCall; (apply R.callE (Li := WL bw ov1 (bs ++ numsI s (xs.take i))); (iterate 3 exact rfl); (focus (repeat' first | exact Ext.all _ | apply Ext.cons); done); intro w1 hw1; exact hput _ _ _ w1 (hw1.get _ _ (At.mem (by exact At.head))) (RdSl.off hw1 (by (focus (repeat' first | exact Ext.all _ | apply Ext.cons); done)) (At.mem (by exact At.head))); rintro v Lo ⟨ov2, rfl, hov2, rfl⟩)) | (apply R.pure; exact rfl; first | (apply Ok1.indexAddrP; (iterate 4 exact rfl); exact hpe; exact rfl; omega; omega) | (apply Ok1.load; exact rfl; apply Ld.row1 (f := 0) H; exact rfl; exact hoff1 _ hpe; (iterate 3 exact rfl)) | (apply Ok1.move; exact rfl) | (apply Ok1.assign; exact rfl) | (apply Ok1.build; (iterate 5 exact rfl))) | (apply R.buildSlice; (iterate 12 exact rfl); intro)) | apply R.nil | (apply T.is; first | apply T.seq | apply T.region | apply T.block | apply T.skip | (apply T.cond_t; exact rfl)))
      exact ⟨(i + 1, ov2), ⟨by simp only; omega, hov2⟩, by simp only; omega, ⟨rfl, rfl, rfl, rfl, rfl, trivial⟩, by (focus (repeat' first | exact Ext.one _ _ | exact Ext.here _ _ | apply Keep.cons | apply Keep.last); done)⟩
    · have him : i = xs.length := by omega
      subst him
      rw [List.take_length] at hov1 ⊢
      repeat' (first | (apply R.is1; first | (apply R.isBin; (apply R.pure; exact rfl; (apply Ok1.lss_f; exact rfl; exact rfl; omega))) | (apply R.pure; exact rfl; first | (apply Ok1.move; exact rfl) | (apply Ok1.assign; exact rfl))) | apply R.nil | (apply T.is; first | apply T.seq | apply T.region | apply T.exit | apply T.ret | (apply T.cond_f; exact rfl)))
      (apply RetOk.t; exact rfl)
      exact ⟨_, by (focus (repeat' first | exact Ext.one _ _ | exact Ext.all _ | apply Keep.cons | apply Keep.last); done), ov1, rfl, hov1, rfl⟩
end Go.Proofs.YtolnagbahceebaaGreat
set_option linter.unusedSimpArgs false
set_option linter.unusedVariables false
namespace Go.Proofs.YtolnagbahceebaaGreat
open Go.Lib
def srt (l : List Int) : List Int := l.mergeSort fun x y => decide (x ≤ y)
theorem srt_perm (l : List Int) : (srt l).Perm l := List.mergeSort_perm _ _
theorem srt_asc (l : List Int) : (srt l).Pairwise (· ≤ ·) := by
  have := List.pairwise_mergeSort (le := fun x y : Int => decide (x ≤ y)) (fun a b c h1 h2 => by simp only [decide_eq_true_eq] at *; omega) (fun a b => by simp only [Bool.or_eq_true, decide_eq_true_eq]; omega) l
  exact this.imp fun h => of_decide_eq_true h
theorem compactUpTo_congr {d d' : Array Int} {m : Nat} (h : ∀ j, j < m → d[j]! = d'[j]!) : compactUpTo d m = compactUpTo d' m := by
  induction m with
  | zero => rfl
  | succ m ih =>
    rw [compactUpTo_succ, compactUpTo_succ, ih fun j hj => h j (by omega), h m (by omega)]
    congr 1
    have hk : keeps d m = keeps d' m := by
      unfold keeps
      rcases Nat.eq_zero_or_pos m with h0 | h0
      · simp [h0]
      · rw [h m (by omega), h (m - 1) (by omega)]
    rw [hk]
theorem compact_nil : compact ([] : List Int) = [] := rfl
theorem compact_snoc (zs : List Int) (x : Int) : compact (zs ++ [x]) = compact zs ++ (if zs.getLast? = some x then [] else [x]) := by
  unfold compact
  rw [List.length_append, List.length_singleton, compactUpTo_succ]
  have h1 : compactUpTo (zs ++ [x]).toArray zs.length = compactUpTo zs.toArray zs.length := compactUpTo_congr fun j hj => by
    rw [getElem!_pos _ j (by simp; omega), getElem!_pos _ j (by simp; omega)]
    simp [List.getElem_append_left, hj]
  rw [h1]
  congr 1
  have h2 : (zs ++ [x]).toArray[zs.length]! = x := by rw [getElem!_pos _ _ (by simp)]; simp
  rw [h2]
  unfold keeps
  rcases Nat.eq_zero_or_pos zs.length with h0 | h0
  · have : zs = [] := List.eq_nil_of_length_eq_zero h0
    subst this
    simp
  · rw [h2]
    have h3 : (zs ++ [x]).toArray[zs.length - 1]! = zs.getLast (by intro e; rw [e] at h0; simp at h0) := by
      rw [getElem!_pos _ _ (by simp; omega)]
      simp only [List.getElem_toArray]
      rw [List.getElem_append_left (by omega), List.getLast_eq_getElem]
    rw [h3, List.getLast?_eq_some_getLast (by intro e; rw [e] at h0; simp at h0)]
    have h4 : ¬ zs.length = 0 := by omega
    simp only [h4, false_or, ne_eq, decide_not, Bool.not_eq_true', decide_eq_false_iff_not, Option.some.injEq]
    by_cases he : x = zs.getLast (by intro e; rw [e] at h0; simp at h0)
    · simp [← he]
    · have he2 : ¬ zs.getLast (by intro e; rw [e] at h0; simp at h0) = x := fun h => he h.symm
      simp [he, he2]
theorem compact_facts (n : Nat) : ∀ zs : List Int, zs.length = n → zs.Pairwise (· ≤ ·) → (∀ y, y ∈ compact zs ↔ y ∈ zs) ∧ (compact zs).Pairwise (· < ·) ∧ ((compact zs).length = zs.length ↔ zs.Nodup) := by
  induction n with
  | zero =>
    intro zs h _
    have : zs = [] := List.eq_nil_of_length_eq_zero h
    subst this
    rw [compact_nil]
    simp
  | succ n ih =>
    intro zs h hs
    have hne : zs ≠ [] := by intro e; rw [e] at h; simp at h
    obtain ⟨ws, x, rfl⟩ : ∃ ws x, zs = ws ++ [x] := ⟨_, _, (List.dropLast_concat_getLast hne).symm⟩
    have hl : ws.length = n := by simpa using h
    rw [List.pairwise_append] at hs
    obtain ⟨hs1, _, hs3⟩ := hs
    have hle : ∀ a ∈ ws, a ≤ x := fun a ha => hs3 a ha x (List.mem_singleton.2 rfl)
    obtain ⟨h1, h2, h3⟩ := ih ws hl hs1
    have hcl := compact_length_le ws
    rw [compact_snoc]
    by_cases hx : ws.getLast? = some x
    · have hmem : x ∈ ws := List.mem_of_getLast? hx
      rw [if_pos hx, List.append_nil]
      refine ⟨fun y => ?_, h2, ?_⟩
      · rw [h1, List.mem_append, List.mem_singleton]
        constructor
        · exact .inl
        · rintro (h | rfl)
          · exact h
          · exact hmem
      · rw [List.length_append, List.length_singleton]
        constructor
        · intro h; omega
        · intro h
          exact absurd rfl ((List.nodup_append.1 h).2.2 x hmem x (List.mem_singleton.2 rfl))
    · have hlt : ∀ a ∈ ws, a < x := by
        intro a ha
        have h5 := hle a ha
        have hwne : ws ≠ [] := List.ne_nil_of_mem ha
        have h6 : a ≤ ws.getLast hwne := by
          have h8 := List.dropLast_concat_getLast hwne
          rw [← h8] at ha hs1
          rcases List.mem_append.1 ha with h | h
          · exact (List.pairwise_append.1 hs1).2.2 a h _ (List.mem_singleton.2 rfl)
          · rw [List.mem_singleton.1 h]; exact Int.le_refl _
        have h7 : ws.getLast hwne ≠ x := by
          intro e
          rw [List.getLast?_eq_some_getLast hwne, e] at hx
          exact hx rfl
        have h9 := hle _ (List.getLast_mem hwne)
        omega
      rw [if_neg hx]
      refine ⟨fun y => ?_, ?_, ?_⟩
      · rw [List.mem_append, List.mem_append, h1]
      · rw [List.pairwise_append]
        refine ⟨h2, by simp, fun a ha b hb => ?_⟩
        rw [List.mem_singleton.1 hb]
        exact hlt a ((h1 a).1 ha)
      · rw [List.length_append, List.length_append, List.length_singleton]
        rw [List.nodup_append]
        constructor
        · intro h
          refine ⟨h3.1 (by omega), by simp, fun a ha b hb => ?_⟩
          rw [List.mem_singleton.1 hb]
          have := hlt a ha
          omega
        · rintro ⟨h, _⟩
          have := h3.2 h
          omega
/-- The sorted list of those that are in it. -/
def uniq (l : List Int) : List Int := compact (srt l)
theorem uniq_len (l : List Int) : (uniq l).length = l.length ↔ l.Nodup := by
  have h := (compact_facts _ _ rfl (srt_asc l)).2.2
  rw [(srt_perm l).length_eq, (srt_perm l).nodup_iff] at h
  exact h
theorem uniq_le (l : List Int) : (uniq l).length ≤ l.length := by
  have := compact_length_le (srt l)
  rw [(srt_perm l).length_eq] at this
  exact this
end Go.Proofs.YtolnagbahceebaaGreat
set_option linter.unusedSimpArgs false
set_option linter.unusedVariables false
namespace Go.Proofs.YtolnagbahceebaaGreat
open Go.RowKit Go.Shelf
set_option maxRecDepth 100000
theorem putRow_own {w : World} {b m : Nat} {d : List Int} {os : Array Obj} {old junk : List Value} {e : TypeId} {fz : Nat × Nat} (hb : w.heap[b]? = some (.cells ⟨old ++ junk⟩ e fz)) (ho : old.length = d.length) :
    Chg [b] w (Go.Sort.grow (Go.Sort.putRow (Value.int .i64) (Go.Sort.ahead w m) b 0 d.toArray) os) ∧ (Go.Sort.grow (Go.Sort.putRow (Value.int .i64) (Go.Sort.ahead w m) b 0 d.toArray) os).heap[b]? = some (.cells ⟨iis d ++ junk⟩ e fz) := by
  have hlt := (Array.getElem?_eq_some_iff.1 hb).1
  refine ⟨⟨rfl, rfl, rfl, ?_, ?_, ?_⟩, ?_⟩
  · simp [Go.Sort.grow, Go.Sort.putRow, Go.Sort.mapBlock, Go.Sort.ahead]
  · simp [Go.Sort.grow, Go.Sort.putRow, Go.Sort.mapBlock, Go.Sort.ahead]
  · intro i hi hs
    have hne : b ≠ i := fun h => hs (by simp [h])
    simp [Go.Sort.grow, Go.Sort.putRow, Go.Sort.mapBlock, Go.Sort.ahead, Array.getElem?_append, hi, Array.getElem_modify, hne]
  · simp only [Go.Sort.grow, Go.Sort.putRow, Go.Sort.mapBlock, Go.Sort.ahead]
    rw [Array.getElem?_append_left (by simpa using hlt), Array.getElem?_modify, if_pos rfl, hb]
    simp only [Option.map_some, Go.Sort.onCells]
    congr 2
    apply Array.ext_getElem?
    intro t
    simp only [Go.Sort.putCells, Array.getElem?_mapIdx, Nat.zero_le, true_and, Nat.zero_add, Nat.sub_zero, List.size_toArray, List.getElem?_toArray]
    by_cases ht : t < d.length
    · rw [List.getElem?_append_left (by omega), List.getElem?_append_left (by rw [iis_len]; omega), List.getElem?_eq_getElem (by omega)]
      simp [ht, iis]
    · rw [List.getElem?_append_right (by omega), List.getElem?_append_right (by rw [iis_len]; omega), ho, iis_len]
      cases junk[t - d.length]? with
      | none => rfl
      | some v => simp [ht]
theorem sortHolds {w : World} {b : Nat} {xs : List Int} {junk : List Value} {e : TypeId} (hb : w.heap[b]? = some (.cells ⟨iis xs ++ junk⟩ e (0, 0))) : Go.Sort.Holds (Value.int .i64) w b 0 xs.toArray := by
  intro j hj
  have hj' : j < xs.length := by simpa using hj
  refine ⟨?_, ?_⟩
  · simp only [World.cell?, hb, Nat.zero_add]
    rw [getElem!_pos _ j hj]
    simp [List.getElem?_append_left, iis_len, hj', iis]
  · simp [World.frozen?, hb]
theorem isort_ok (xs : List Int) (hbig : xs.length ≤ 1000000000) (ov : Ov) (hov : OvOk 1 ov xs.length (iis xs)) (w : World) :
    CallM Tryz.prog 107 [slV ov xs.length] (blkL 3 ov (iis xs)) w fun v L => v = .tuple #[] ∧ L = blkL 3 ov (iis (srt xs)) := by
  cases ov with
  | none =>
    have h0 : xs.length = 0 := hov.2
    have : xs = [] := List.eq_nil_of_length_eq_zero h0
    subst this
    exact ⟨fun hw => Calls.mono (AnyM.slices_Sort_int_none Tryz.sortI none 0 w) fun e w' ⟨h1, h2⟩ => ⟨_, _, h1, ⟨rfl, rfl⟩, by rw [h2]; exact hw⟩⟩
  | some q =>
    obtain ⟨b, j, junk⟩ := q
    refine ⟨fun hw => ?_⟩
    have hb := hw.get b _ List.mem_cons_self
    have hlt := (Array.getElem?_eq_some_iff.1 hb).1
    refine Calls.mono (AnyM.slices_Sort_int Tryz.sortI b 0 (xs.length + j) xs w (sortHolds hb) hlt (by omega)) ?_
    rintro e w' ⟨h1, n, os, rfl⟩
    obtain ⟨g1, g2⟩ := putRow_own (m := n) (d := srt xs) (os := os) hb (by rw [iis_len, (srt_perm xs).length_eq])
    exact ⟨_, _, h1, ⟨rfl, rfl⟩, hw.upd .head g1 g2⟩
theorem icompact_ok (xs : List Int) (hbig : xs.length ≤ 1000000000) (ov : Ov) (hov : OvOk 1 ov xs.length (iis xs)) (w : World) :
    CallM Tryz.prog 108 [slV ov xs.length] (blkL 3 ov (iis xs)) w fun v L => ∃ ov', OvOk 1 ov' (Go.Lib.compact xs).length (iis (Go.Lib.compact xs)) ∧ v = slV ov' (Go.Lib.compact xs).length ∧ L = blkL 3 ov' (iis (Go.Lib.compact xs)) := by
  cases ov with
  | none =>
    have h0 : xs.length = 0 := hov.2
    have : xs = [] := List.eq_nil_of_length_eq_zero h0
    subst this
    exact ⟨fun hw => Calls.mono (AnyG.slices_Compact_int_empty Tryz.cmpI none 0 w) fun e w' ⟨h1, h2⟩ => ⟨_, _, h1, ⟨none, hov, rfl, rfl⟩, by rw [h2]; exact hw⟩⟩
  | some q =>
    obtain ⟨b, j, junk⟩ := q
    refine ⟨fun hw => ?_⟩
    have hb := hw.get b _ List.mem_cons_self
    have hle := Go.Lib.compact_length_le xs
    refine Calls.mono (AnyG.slices_Compact_int Tryz.cmpI b 0 (xs.length + j) xs w (sortHolds hb) (by omega) (by omega)) ?_
    rintro e w' ⟨h1, n, rfl⟩
    obtain ⟨g1, g2⟩ := putRow_own (m := n) (d := Go.Lib.compact xs ++ List.replicate (xs.length - (Go.Lib.compact xs).length) 0) (os := #[]) hb (by rw [iis_len, List.length_append, List.length_replicate]; omega)
    simp only [Go.Sort.grow_empty] at g1 g2
    rw [iis_app, List.append_assoc] at g2
    have hj : junk.length = j := by have := hov.2; simpa using this
    refine ⟨_, _, h1, ⟨some (b, (xs.length - (Go.Lib.compact xs).length) + j, iis (List.replicate (xs.length - (Go.Lib.compact xs).length) 0) ++ junk), ⟨by rw [iis_len, Nat.mul_one], by simp only [List.length_append, iis_len, List.length_replicate, hj, Nat.mul_one]⟩, ?_, rfl⟩, hw.upd .head g1 g2⟩
    simp only [slV]
    congr 1
    omega
end Go.Proofs.YtolnagbahceebaaGreat
