/-
  CheckLimits: the reference's tree of a text.
-/
import Derived.Test.YtbgmkefehfjicaaClT
namespace Go.Proofs.Ytbgmkefehfjicaa
set_option linter.unusedVariables false
set_option linter.unusedSimpArgs false
open Go Go.RowKit
open Sy (Let Blk)

abbrev fParse3 : FuncId := 14
def tb3 : List Nat := [116, 104, 114, 101, 97, 100, 32, 123, 32, 108, 101, 116, 32, 118, 97, 32, 61, 32, 49, 59, 32, 108, 101, 116, 32, 118, 98, 32, 61, 32, 49, 59, 32, 108, 101, 116, 32, 118, 99, 32, 61, 32, 49, 59, 32, 108, 101, 116, 32, 118, 100, 32, 61, 32, 49, 59, 32, 108, 101, 116, 32, 118, 101, 32, 61, 32, 49, 59, 32, 108, 101, 116, 32, 118, 102, 32, 61, 32, 49, 59, 32, 108, 101, 116, 32, 118, 103, 32, 61, 32, 49, 59, 32, 108, 101, 116, 32, 118, 104, 32, 61, 32, 49, 59, 32, 108, 101, 116, 32, 118, 105, 32, 61, 32, 49, 59, 32, 108, 101, 116, 32, 118, 106, 32, 61, 32, 49, 59, 32, 108, 101, 116, 32, 118, 107, 32, 61, 32, 49, 59, 32, 108, 101, 116, 32, 118, 108, 32, 61, 32, 49, 59, 32, 108, 101, 116, 32, 118, 109, 32, 61, 32, 49, 59, 32, 108, 101, 116, 32, 118, 110, 32, 61, 32, 49, 59, 32, 108, 101, 116, 32, 118, 111, 32, 61, 32, 49, 59, 32, 108, 101, 116, 32, 118, 112, 32, 61, 32, 49, 59, 32, 108, 101, 116, 32, 118, 113, 32, 61, 32, 49, 59, 32, 108, 101, 116, 32, 118, 114, 32, 61, 32, 49, 59, 32, 108, 101, 116, 32, 118, 115, 32, 61, 32, 49, 59, 32, 108, 101, 116, 32, 118, 116, 32, 61, 32, 49, 59, 32, 108, 101, 116, 32, 118, 117, 32, 61, 32, 49, 59, 32, 108, 101, 116, 32, 118, 118, 32, 61, 32, 49, 59, 32, 108, 101, 116, 32, 118, 119, 32, 61, 32, 49, 59, 32, 108, 101, 116, 32, 118, 120, 32, 61, 32, 49, 59, 32, 108, 101, 116, 32, 119, 32, 61, 32, 49, 59, 32, 125]
noncomputable def paA3 (g c : Nat) : Array Value := #[.slice (some ⟨g, 0, none⟩) 309 (Nat.add c 309)]
set_option maxRecDepth 1000000 in
noncomputable def pl3_o : Sy.O := (Sy.O.pack 120 0x10000000001000000802000000080420001010002008000ef311061000000001708c41bc0027b80d0058b0054900907018012900118800080e010400000001006300020000000000000840 (Sy.O.pack 120 0x40000001000000040108000d623042102c0110000888c000040000000180000005000a0280010000001400000002800000005000000140000005014a001000000000000000c0010040 (Sy.O.pack 73 0x10060100c0204030180108000e8080000000800000080200000800000000000003000200806000401008000c00 (Sy.O.steps [32] (Sy.O.pack 77 0x10060100c1204030180108000d0480000000000010000000000000000000000000000000004000601808000c0000060 (Sy.O.steps [32] (Sy.O.pack 36 0xc0400c0629820200c00840005ca60000500000000a0 (Sy.O.steps [133] (Sy.O.pack 45 0x280c0280e33840601c6708420380220001219c001800702cc520ce1 (Sy.O.steps [259] (Sy.O.pack 120 0x2c23000010000000060000001400280a0004000000500000000a000000014000000500000014052800400000000000000300040100e001080000e0200070000000000000a00040000020 (Sy.O.pack 85 0x20000000200000020080000200000000000000c000802018001004020003000000100000004000000100420003588c10840b00440 (Sy.O.steps [34] (Sy.O.pack 21 0x10060100c0204030180108000 (Sy.O.steps [32] (Sy.O.pack 77 0x10060100c1204030180108000f8480000000000010000000000000000000000000000000004000601808000c0000060 (Sy.O.steps [32] (Sy.O.pack 36 0xc0400c0629820200c008400070a60000500000000a0 (Sy.O.steps [133] (Sy.O.pack 45 0x280c0280e33840601c6708420380220001719c001800702cc520ce1 (Sy.O.steps [259] (Sy.O.pack 120 0xd08c000040000000180000005000a0280010000001400000002800000005000000140000005014a001000000000000000c001004058004200005808002c800000500000001400040000020 (Sy.O.pack 87 0x80000000800000080200000800000000000003000200806000401008000c00000040000001000000040108000d623042102c0110000 (Sy.O.steps [38] (Sy.O.pack 21 0x10060100c0204030180108000 (Sy.O.steps [32] (Sy.O.pack 55 0x480000000000010000000000000000000000000000000004000601808000c0000060 (Sy.O.steps [35] (Sy.O.pack 21 0x10060100c1204030180108000 (Sy.O.steps [32] (Sy.O.pack 14 0xa60000500000000a0 (Sy.O.steps [32] (Sy.O.pack 21 0x18080180c5304040180108000 (Sy.O.steps [133] (Sy.O.pack 45 0x280c0280e33840601c6708420380220001b19c001800702cc520ce1 (Sy.O.steps [259] (Sy.O.pack 120 0xf08c000040000000180000005000a0280010000001400000002800000005000000140000005014a001000000000000000c001004078004200007808003c800000500000001c00040000020 (Sy.O.pack 87 0x80000000800000080200000800000000000003000200806000401008000c00000040000001000000040108000d623042102c0110000 (Sy.O.steps [42] (Sy.O.pack 21 0x10060100c0204030180108000 (Sy.O.steps [32] (Sy.O.pack 55 0x480000000000010000000000000000000000000000000004000601808000c0000060 (Sy.O.steps [39] (Sy.O.pack 21 0x10060100c1204030180108000 (Sy.O.steps [32] (Sy.O.pack 14 0xa60000500000000a0 (Sy.O.steps [36] (Sy.O.pack 21 0x18080180c5304040180108000 (Sy.O.steps [133] (Sy.O.pack 45 0x280c0280e33840601c6708420380220001f19c001800702cc520ce1 (Sy.O.steps [259] (Sy.O.pack 119 0x8c000040000000180000005000a0280010000001400000002800000005000000140000005014a001000000000000000c001004098004200009808004c800000500000002400040000020 (Sy.O.steps [34] (Sy.O.pack 87 0x80000000800000080200000800000000000003000200806000401008000c00000040000001000000040108000d623042102c0110000 (Sy.O.steps [46] (Sy.O.pack 21 0x10060100c0204030180108000 (Sy.O.steps [32] (Sy.O.pack 55 0x480000000000010000000000000000000000000000000004000601808000c0000060 (Sy.O.steps [43] (Sy.O.pack 21 0x10060100c1204030180108000 (Sy.O.steps [32] (Sy.O.pack 14 0xa60000500000000a0 (Sy.O.steps [40] (Sy.O.pack 21 0x18080180c5304040180108000 (Sy.O.steps [133] (Sy.O.pack 16 0x19c001800702cc520ce1 (Sy.O.steps [35] (Sy.O.pack 28 0x14060140719c20300e33842101c0110000 (Sy.O.steps [259] (Sy.O.pack 119 0x8c000040000000180000005000a0280010000001400000002800000005000000140000005014a001000000000000000c0010040b800420000b808005c800000500000002c00040000020 (Sy.O.steps [38] (Sy.O.pack 87 0x80000000800000080200000800000000000003000200806000401008000c00000040000001000000040108000d623042102c0110000 (Sy.O.steps [50] (Sy.O.pack 21 0x10060100c0204030180108000 (Sy.O.steps [32] (Sy.O.pack 55 0x480000000000010000000000000000000000000000000004000601808000c0000060 (Sy.O.steps [47] (Sy.O.pack 21 0x10060100c1204030180108000 (Sy.O.steps [32] (Sy.O.pack 14 0xa60000500000000a0 (Sy.O.steps [44] (Sy.O.pack 21 0x18080180c5304040180108000 (Sy.O.steps [133] (Sy.O.pack 16 0x19c001800702cc520ce1 (Sy.O.steps [39] (Sy.O.pack 28 0x14060140719c20300e33842101c0110000 (Sy.O.steps [259] (Sy.O.pack 119 0x8c000040000000180000005000a0280010000001400000002800000005000000140000005014a001000000000000000c0010040d800420000d808006c800000500000003400040000020 (Sy.O.steps [42] (Sy.O.pack 87 0x80000000800000080200000800000000000003000200806000401008000c00000040000001000000040108000d623042102c0110000 (Sy.O.steps [54] (Sy.O.pack 21 0x10060100c0204030180108000 (Sy.O.steps [32] (Sy.O.pack 55 0x480000000000010000000000000000000000000000000004000601808000c0000060 (Sy.O.steps [51] (Sy.O.pack 21 0x10060100c1204030180108000 (Sy.O.steps [32] (Sy.O.pack 14 0xa60000500000000a0 (Sy.O.steps [48] (Sy.O.pack 21 0x18080180c5304040180108000 (Sy.O.steps [133] (Sy.O.pack 16 0x19c001800702cc520ce1 (Sy.O.steps [43] (Sy.O.pack 28 0x14060140719c20300e33842101c0110000 (Sy.O.steps [259] (Sy.O.pack 119 0x8c000040000000180000005000a0280010000001400000002800000005000000140000005014a001000000000000000c0010040f800420000f808007c800000500000003c00040000020 (Sy.O.steps [46] (Sy.O.pack 87 0x80000000800000080200000800000000000003000200806000401008000c00000040000001000000040108000d623042102c0110000 (Sy.O.steps [58] (Sy.O.pack 21 0x10060100c0204030180108000 (Sy.O.steps [32] (Sy.O.pack 55 0x480000000000010000000000000000000000000000000004000601808000c0000060 (Sy.O.steps [55] (Sy.O.pack 21 0x10060100c1204030180108000 (Sy.O.steps [32] (Sy.O.pack 14 0xa60000500000000a0 (Sy.O.steps [52] (Sy.O.pack 21 0x18080180c5304040180108000 (Sy.O.steps [133] (Sy.O.pack 16 0x19c001800702cc520ce1 (Sy.O.steps [47] (Sy.O.pack 28 0x14060140719c20300e33842101c0110000 (Sy.O.steps [259] (Sy.O.pack 9 0x40000020 (Sy.O.steps [34] (Sy.O.pack 12 0x200000140000000 (Sy.O.steps [35] (Sy.O.pack 4 0x1000 (Sy.O.steps [35] (Sy.O.pack 7 0x420000 (Sy.O.steps [35] (Sy.O.pack 83 0x8c000040000000180000005000a0280010000001400000002800000005000000140000005014a001000000000000000c0010040 (Sy.O.steps [50] (Sy.O.pack 87 0x80000000800000080200000800000000000003000200806000401008000c00000040000001000000040108000d623042102c0110000 (Sy.O.steps [62] (Sy.O.pack 21 0x10060100c0204030180108000 (Sy.O.steps [32] (Sy.O.pack 55 0x480000000000010000000000000000000000000000000004000601808000c0000060 (Sy.O.steps [59] (Sy.O.pack 21 0x10060100c1204030180108000 (Sy.O.steps [32] (Sy.O.pack 14 0xa60000500000000a0 (Sy.O.steps [56] (Sy.O.pack 21 0x18080180c5304040180108000 (Sy.O.steps [133] (Sy.O.pack 16 0x19c001800702cc520ce1 (Sy.O.steps [51] (Sy.O.pack 28 0x14060140719c20300e33842101c0110000 (Sy.O.steps [259] (Sy.O.pack 9 0x40000020 (Sy.O.steps [38] (Sy.O.pack 12 0x200000140000000 (Sy.O.steps [39] (Sy.O.pack 4 0x1000 (Sy.O.steps [39] (Sy.O.pack 7 0x420000 (Sy.O.steps [39] (Sy.O.pack 83 0x8c000040000000180000005000a0280010000001400000002800000005000000140000005014a001000000000000000c0010040 (Sy.O.steps [54] (Sy.O.pack 87 0x80000000800000080200000800000000000003000200806000401008000c00000040000001000000040108000d623042102c0110000 (Sy.O.steps [66] (Sy.O.pack 21 0x10060100c0204030180108000 (Sy.O.steps [32] (Sy.O.pack 55 0x480000000000010000000000000000000000000000000004000601808000c0000060 (Sy.O.steps [63] (Sy.O.pack 21 0x10060100c1204030180108000 (Sy.O.steps [32] (Sy.O.pack 14 0xa60000500000000a0 (Sy.O.steps [60] (Sy.O.pack 21 0x18080180c5304040180108000 (Sy.O.steps [133] (Sy.O.pack 16 0x19c001800702cc520ce1 (Sy.O.steps [55] (Sy.O.pack 28 0x14060140719c20300e33842101c0110000 (Sy.O.steps [259] (Sy.O.pack 9 0x40000020 (Sy.O.steps [42] (Sy.O.pack 12 0x200000140000000 (Sy.O.steps [43] (Sy.O.pack 4 0x1000 (Sy.O.steps [43] (Sy.O.pack 7 0x420000 (Sy.O.steps [43] (Sy.O.pack 83 0x8c000040000000180000005000a0280010000001400000002800000005000000140000005014a001000000000000000c0010040 (Sy.O.steps [58] (Sy.O.pack 87 0x80000000800000080200000800000000000003000200806000401008000c00000040000001000000040108000d623042102c0110000 (Sy.O.steps [70] (Sy.O.pack 21 0x10060100c0204030180108000 (Sy.O.steps [32] (Sy.O.pack 55 0x480000000000010000000000000000000000000000000004000601808000c0000060 (Sy.O.steps [67] (Sy.O.pack 21 0x10060100c1204030180108000 (Sy.O.steps [32] (Sy.O.pack 14 0xa60000500000000a0 (Sy.O.steps [64] (Sy.O.pack 21 0x18080180c5304040180108000 (Sy.O.steps [133] (Sy.O.pack 16 0x19c001800702cc520ce1 (Sy.O.steps [59] (Sy.O.pack 28 0x14060140719c20300e33842101c0110000 (Sy.O.steps [259] (Sy.O.pack 9 0x40000020 (Sy.O.steps [46] (Sy.O.pack 12 0x200000140000000 (Sy.O.steps [47] (Sy.O.pack 4 0x1000 (Sy.O.steps [47] (Sy.O.pack 7 0x420000 (Sy.O.steps [47] (Sy.O.pack 83 0x8c000040000000180000005000a0280010000001400000002800000005000000140000005014a001000000000000000c0010040 (Sy.O.steps [62] (Sy.O.pack 87 0x80000000800000080200000800000000000003000200806000401008000c00000040000001000000040108000d623042102c0110000 (Sy.O.steps [74] (Sy.O.pack 21 0x10060100c0204030180108000 (Sy.O.steps [32] (Sy.O.pack 55 0x480000000000010000000000000000000000000000000004000601808000c0000060 (Sy.O.steps [71] (Sy.O.pack 21 0x10060100c1204030180108000 (Sy.O.steps [32] (Sy.O.pack 14 0xa60000500000000a0 (Sy.O.steps [68] (Sy.O.pack 21 0x18080180c5304040180108000 (Sy.O.steps [133] (Sy.O.pack 16 0x19c001800702cc520ce1 (Sy.O.steps [63] (Sy.O.pack 28 0x14060140719c20300e33842101c0110000 (Sy.O.steps [259] (Sy.O.pack 9 0x40000020 (Sy.O.steps [50] (Sy.O.pack 12 0x200000140000000 (Sy.O.steps [51] (Sy.O.pack 4 0x1000 (Sy.O.steps [51] (Sy.O.pack 7 0x420000 (Sy.O.steps [51] (Sy.O.pack 83 0x8c000040000000180000005000a0280010000001400000002800000005000000140000005014a001000000000000000c0010040 (Sy.O.steps [66] (Sy.O.pack 87 0x80000000800000080200000800000000000003000200806000401008000c00000040000001000000040108000d623042102c0110000 (Sy.O.steps [78] (Sy.O.pack 21 0x10060100c0204030180108000 (Sy.O.steps [32] (Sy.O.pack 55 0x480000000000010000000000000000000000000000000004000601808000c0000060 (Sy.O.steps [75] (Sy.O.pack 21 0x10060100c1204030180108000 (Sy.O.steps [32] (Sy.O.pack 14 0xa60000500000000a0 (Sy.O.steps [72] (Sy.O.pack 21 0x18080180c5304040180108000 (Sy.O.steps [133] (Sy.O.pack 16 0x19c001800702cc520ce1 (Sy.O.steps [67] (Sy.O.pack 28 0x14060140719c20300e33842101c0110000 (Sy.O.steps [259] (Sy.O.pack 9 0x40000020 (Sy.O.steps [54] (Sy.O.pack 12 0x200000140000000 (Sy.O.steps [55] (Sy.O.pack 4 0x1000 (Sy.O.steps [55] (Sy.O.pack 7 0x420000 (Sy.O.steps [55] (Sy.O.pack 83 0x8c000040000000180000005000a0280010000001400000002800000005000000140000005014a001000000000000000c0010040 (Sy.O.steps [70] (Sy.O.pack 87 0x80000000800000080200000800000000000003000200806000401008000c00000040000001000000040108000d623042102c0110000 (Sy.O.steps [82] (Sy.O.pack 21 0x10060100c0204030180108000 (Sy.O.steps [32] (Sy.O.pack 55 0x480000000000010000000000000000000000000000000004000601808000c0000060 (Sy.O.steps [79] (Sy.O.pack 21 0x10060100c1204030180108000 (Sy.O.steps [32] (Sy.O.pack 14 0xa60000500000000a0 (Sy.O.steps [76] (Sy.O.pack 21 0x18080180c5304040180108000 (Sy.O.steps [133] (Sy.O.pack 16 0x19c001800702cc520ce1 (Sy.O.steps [71] (Sy.O.pack 28 0x14060140719c20300e33842101c0110000 (Sy.O.steps [259] (Sy.O.pack 9 0x40000020 (Sy.O.steps [58] (Sy.O.pack 12 0x200000140000000 (Sy.O.steps [59] (Sy.O.pack 4 0x1000 (Sy.O.steps [59] (Sy.O.pack 7 0x420000 (Sy.O.steps [59] (Sy.O.pack 83 0x8c000040000000180000005000a0280010000001400000002800000005000000140000005014a001000000000000000c0010040 (Sy.O.steps [74] (Sy.O.pack 87 0x80000000800000080200000800000000000003000200806000401008000c00000040000001000000040108000d623042102c0110000 (Sy.O.steps [86] (Sy.O.pack 21 0x10060100c0204030180108000 (Sy.O.steps [32] (Sy.O.pack 55 0x480000000000010000000000000000000000000000000004000601808000c0000060 (Sy.O.steps [83] (Sy.O.pack 21 0x10060100c1204030180108000 (Sy.O.steps [32] (Sy.O.pack 14 0xa60000500000000a0 (Sy.O.steps [80] (Sy.O.pack 21 0x18080180c5304040180108000 (Sy.O.steps [133] (Sy.O.pack 16 0x19c001800702cc520ce1 (Sy.O.steps [75] (Sy.O.pack 28 0x14060140719c20300e33842101c0110000 (Sy.O.steps [259] (Sy.O.pack 9 0x40000020 (Sy.O.steps [62] (Sy.O.pack 12 0x200000140000000 (Sy.O.steps [63] (Sy.O.pack 4 0x1000 (Sy.O.steps [63] (Sy.O.pack 7 0x420000 (Sy.O.steps [63] (Sy.O.pack 83 0x8c000040000000180000005000a0280010000001400000002800000005000000140000005014a001000000000000000c0010040 (Sy.O.steps [78] (Sy.O.pack 87 0x80000000800000080200000800000000000003000200806000401008000c00000040000001000000040108000d623042102c0110000 (Sy.O.steps [90] (Sy.O.pack 21 0x10060100c0204030180108000 (Sy.O.steps [32] (Sy.O.pack 55 0x480000000000010000000000000000000000000000000004000601808000c0000060 (Sy.O.steps [87] (Sy.O.pack 21 0x10060100c1204030180108000 (Sy.O.steps [32] (Sy.O.pack 14 0xa60000500000000a0 (Sy.O.steps [84] (Sy.O.pack 21 0x18080180c5304040180108000 (Sy.O.steps [133] (Sy.O.pack 16 0x19c001800702cc520ce1 (Sy.O.steps [79] (Sy.O.pack 28 0x14060140719c20300e33842101c0110000 (Sy.O.steps [259] (Sy.O.pack 9 0x40000020 (Sy.O.steps [66] (Sy.O.pack 12 0x200000140000000 (Sy.O.steps [67] (Sy.O.pack 4 0x1000 (Sy.O.steps [67] (Sy.O.pack 7 0x420000 (Sy.O.steps [67] (Sy.O.pack 83 0x8c000040000000180000005000a0280010000001400000002800000005000000140000005014a001000000000000000c0010040 (Sy.O.steps [82] (Sy.O.pack 87 0x80000000800000080200000800000000000003000200806000401008000c00000040000001000000040108000d623042102c0110000 (Sy.O.steps [94] (Sy.O.pack 21 0x10060100c0204030180108000 (Sy.O.steps [32] (Sy.O.pack 55 0x480000000000010000000000000000000000000000000004000601808000c0000060 (Sy.O.steps [91] (Sy.O.pack 21 0x10060100c1204030180108000 (Sy.O.steps [32] (Sy.O.pack 14 0xa60000500000000a0 (Sy.O.steps [88] (Sy.O.pack 21 0x18080180c5304040180108000 (Sy.O.steps [133] (Sy.O.pack 16 0x19c001800702cc520ce1 (Sy.O.steps [83] (Sy.O.pack 28 0x14060140719c20300e33842101c0110000 (Sy.O.steps [259] (Sy.O.pack 9 0x40000020 (Sy.O.steps [70] (Sy.O.pack 12 0x200000140000000 (Sy.O.steps [71] (Sy.O.pack 4 0x1000 (Sy.O.steps [71] (Sy.O.pack 7 0x420000 (Sy.O.steps [71] (Sy.O.pack 83 0x8c000040000000180000005000a0280010000001400000002800000005000000140000005014a001000000000000000c0010040 (Sy.O.steps [86] (Sy.O.pack 87 0x80000000800000080200000800000000000003000200806000401008000c00000040000001000000040108000d623042102c0110000 (Sy.O.steps [98] (Sy.O.pack 21 0x10060100c0204030180108000 (Sy.O.steps [32] (Sy.O.pack 55 0x480000000000010000000000000000000000000000000004000601808000c0000060 (Sy.O.steps [95] (Sy.O.pack 21 0x10060100c1204030180108000 (Sy.O.steps [32] (Sy.O.pack 14 0xa60000500000000a0 (Sy.O.steps [92] (Sy.O.pack 21 0x18080180c5304040180108000 (Sy.O.steps [133] (Sy.O.pack 16 0x19c001800702cc520ce1 (Sy.O.steps [87] (Sy.O.pack 28 0x14060140719c20300e33842101c0110000 (Sy.O.steps [259] (Sy.O.pack 9 0x40000020 (Sy.O.steps [74] (Sy.O.pack 12 0x200000140000000 (Sy.O.steps [75] (Sy.O.pack 4 0x1000 (Sy.O.steps [75] (Sy.O.pack 7 0x420000 (Sy.O.steps [75] (Sy.O.pack 83 0x8c000040000000180000005000a0280010000001400000002800000005000000140000005014a001000000000000000c0010040 (Sy.O.steps [90] (Sy.O.pack 87 0x80000000800000080200000800000000000003000200806000401008000c00000040000001000000040108000d623042102c0110000 (Sy.O.steps [102] (Sy.O.pack 21 0x10060100c0204030180108000 (Sy.O.steps [32] (Sy.O.pack 55 0x480000000000010000000000000000000000000000000004000601808000c0000060 (Sy.O.steps [99] (Sy.O.pack 21 0x10060100c1204030180108000 (Sy.O.steps [32] (Sy.O.pack 14 0xa60000500000000a0 (Sy.O.steps [96] (Sy.O.pack 21 0x18080180c5304040180108000 (Sy.O.steps [133] (Sy.O.pack 16 0x19c001800702cc520ce1 (Sy.O.steps [91] (Sy.O.pack 28 0x14060140719c20300e33842101c0110000 (Sy.O.steps [259] (Sy.O.pack 9 0x40000020 (Sy.O.steps [78] (Sy.O.pack 12 0x200000140000000 (Sy.O.steps [79] (Sy.O.pack 4 0x1000 (Sy.O.steps [79] (Sy.O.pack 7 0x420000 (Sy.O.steps [79] (Sy.O.pack 83 0x8c000040000000180000005000a0280010000001400000002800000005000000140000005014a001000000000000000c0010040 (Sy.O.steps [94] (Sy.O.pack 87 0x80000000800000080200000800000000000003000200806000401008000c00000040000001000000040108000d623042102c0110000 (Sy.O.steps [106] (Sy.O.pack 21 0x10060100c0204030180108000 (Sy.O.steps [32] (Sy.O.pack 55 0x480000000000010000000000000000000000000000000004000601808000c0000060 (Sy.O.steps [103] (Sy.O.pack 21 0x10060100c1204030180108000 (Sy.O.steps [32] (Sy.O.pack 14 0xa60000500000000a0 (Sy.O.steps [100] (Sy.O.pack 21 0x18080180c5304040180108000 (Sy.O.steps [133] (Sy.O.pack 16 0x19c001800702cc520ce1 (Sy.O.steps [95] (Sy.O.pack 28 0x14060140719c20300e33842101c0110000 (Sy.O.steps [259] (Sy.O.pack 9 0x40000020 (Sy.O.steps [82] (Sy.O.pack 12 0x200000140000000 (Sy.O.steps [83] (Sy.O.pack 4 0x1000 (Sy.O.steps [83] (Sy.O.pack 7 0x420000 (Sy.O.steps [83] (Sy.O.pack 83 0x8c000040000000180000005000a0280010000001400000002800000005000000140000005014a001000000000000000c0010040 (Sy.O.steps [98] (Sy.O.pack 87 0x80000000800000080200000800000000000003000200806000401008000c00000040000001000000040108000d623042102c0110000 (Sy.O.steps [110] (Sy.O.pack 21 0x10060100c0204030180108000 (Sy.O.steps [32] (Sy.O.pack 55 0x480000000000010000000000000000000000000000000004000601808000c0000060 (Sy.O.steps [107] (Sy.O.pack 21 0x10060100c1204030180108000 (Sy.O.steps [32] (Sy.O.pack 14 0xa60000500000000a0 (Sy.O.steps [104] (Sy.O.pack 21 0x18080180c5304040180108000 (Sy.O.steps [133] (Sy.O.pack 16 0x19c001800702cc520ce1 (Sy.O.steps [99] (Sy.O.pack 28 0x14060140719c20300e33842101c0110000 (Sy.O.steps [259] (Sy.O.pack 9 0x40000020 (Sy.O.steps [86] (Sy.O.pack 12 0x200000140000000 (Sy.O.steps [87] (Sy.O.pack 4 0x1000 (Sy.O.steps [87] (Sy.O.pack 7 0x420000 (Sy.O.steps [87] (Sy.O.pack 83 0x8c000040000000180000005000a0280010000001400000002800000005000000140000005014a001000000000000000c0010040 (Sy.O.steps [102] (Sy.O.pack 87 0x80000000800000080200000800000000000003000200806000401008000c00000040000001000000040108000d623042102c0110000 (Sy.O.steps [114] (Sy.O.pack 21 0x10060100c0204030180108000 (Sy.O.steps [32] (Sy.O.pack 55 0x480000000000010000000000000000000000000000000004000601808000c0000060 (Sy.O.steps [111] (Sy.O.pack 21 0x10060100c1204030180108000 (Sy.O.steps [32] (Sy.O.pack 14 0xa60000500000000a0 (Sy.O.steps [108] (Sy.O.pack 21 0x18080180c5304040180108000 (Sy.O.steps [133] (Sy.O.pack 16 0x19c001800702cc520ce1 (Sy.O.steps [103] (Sy.O.pack 28 0x14060140719c20300e33842101c0110000 (Sy.O.steps [259] (Sy.O.pack 9 0x40000020 (Sy.O.steps [90] (Sy.O.pack 12 0x200000140000000 (Sy.O.steps [91] (Sy.O.pack 4 0x1000 (Sy.O.steps [91] (Sy.O.pack 7 0x420000 (Sy.O.steps [91] (Sy.O.pack 83 0x8c000040000000180000005000a0280010000001400000002800000005000000140000005014a001000000000000000c0010040 (Sy.O.steps [106] (Sy.O.pack 87 0x80000000800000080200000800000000000003000200806000401008000c00000040000001000000040108000d623042102c0110000 (Sy.O.steps [118] (Sy.O.pack 21 0x10060100c0204030180108000 (Sy.O.steps [32] (Sy.O.pack 55 0x480000000000010000000000000000000000000000000004000601808000c0000060 (Sy.O.steps [115] (Sy.O.pack 21 0x10060100c1204030180108000 (Sy.O.steps [32] (Sy.O.pack 14 0xa60000500000000a0 (Sy.O.steps [112] (Sy.O.pack 21 0x18080180c5304040180108000 (Sy.O.steps [133] (Sy.O.pack 16 0x19c001800702cc520ce1 (Sy.O.steps [107] (Sy.O.pack 28 0x14060140719c20300e33842101c0110000 (Sy.O.steps [259] (Sy.O.pack 9 0x40000020 (Sy.O.steps [94] (Sy.O.pack 12 0x200000140000000 (Sy.O.steps [95] (Sy.O.pack 4 0x1000 (Sy.O.steps [95] (Sy.O.pack 7 0x420000 (Sy.O.steps [95] (Sy.O.pack 83 0x8c000040000000180000005000a0280010000001400000002800000005000000140000005014a001000000000000000c0010040 (Sy.O.steps [110] (Sy.O.pack 87 0x80000000800000080200000800000000000003000200806000401008000c00000040000001000000040108000d623042102c0110000 (Sy.O.steps [122] (Sy.O.pack 21 0x10060100c0204030180108000 (Sy.O.steps [32] (Sy.O.pack 55 0x480000000000010000000000000000000000000000000004000601808000c0000060 (Sy.O.steps [119] (Sy.O.pack 21 0x10060100c1204030180108000 (Sy.O.steps [32] (Sy.O.pack 14 0xa60000500000000a0 (Sy.O.steps [116] (Sy.O.pack 21 0x18080180c5304040180108000 (Sy.O.steps [133] (Sy.O.pack 16 0x19c001800702cc520ce1 (Sy.O.steps [111] (Sy.O.pack 28 0x14060140719c20300e33842101c0110000 (Sy.O.steps [259] (Sy.O.pack 9 0x40000020 (Sy.O.steps [98] (Sy.O.pack 12 0x200000140000000 (Sy.O.steps [99] (Sy.O.pack 4 0x1000 (Sy.O.steps [99] (Sy.O.pack 7 0x420000 (Sy.O.steps [99] (Sy.O.pack 83 0x8c000040000000180000005000a0280010000001400000002800000005000000140000005014a001000000000000000c0010040 (Sy.O.steps [114] (Sy.O.pack 87 0x80000000800000080200000800000000000003000200806000401008000c00000040000001000000040108000d623042102c0110000 (Sy.O.steps [126] (Sy.O.pack 21 0x10060100c0204030180108000 (Sy.O.steps [32] (Sy.O.pack 55 0x480000000000010000000000000000000000000000000004000601808000c0000060 (Sy.O.steps [123] (Sy.O.pack 21 0x10060100c1204030180108000 (Sy.O.steps [32] (Sy.O.pack 14 0xa60000500000000a0 (Sy.O.steps [120] (Sy.O.pack 21 0x18080180c5304040180108000 (Sy.O.steps [133] (Sy.O.pack 16 0x19c001800702cc520ce1 (Sy.O.steps [115] (Sy.O.pack 28 0x14060140719c20300e33842101c0110000 (Sy.O.steps [259] (Sy.O.pack 9 0x40000020 (Sy.O.steps [102] (Sy.O.pack 12 0x200000140000000 (Sy.O.steps [103] (Sy.O.pack 4 0x1000 (Sy.O.steps [103] (Sy.O.pack 7 0x420000 (Sy.O.steps [103] (Sy.O.pack 5 0x0 (Sy.O.steps [103] (Sy.O.steps [0] (Sy.O.steps [103] (Sy.O.steps [0] (Sy.O.steps [103] (Sy.O.steps [0, 0] (Sy.O.steps [103] (Sy.O.steps [0, 0] (Sy.O.steps [102] (Sy.O.steps [0] (Sy.O.steps [102] (Sy.O.steps [0] (Sy.O.steps [22986730884138559813806884790819] (Sy.O.pack 17 0x1e07c0000000 (Sy.O.steps [32] (Sy.O.steps [0, 0] (Sy.O.steps [33] (Sy.O.pack 5 0x18c00 (Sy.O.steps [33] (Sy.O.pack 5 0x0 (Sy.O.steps [33] (Sy.O.steps [0] (Sy.O.steps [33] (Sy.O.pack 4 0x0 (Sy.O.steps [32] (Sy.O.steps [0, 0] (Sy.O.steps [37] (Sy.O.steps [0, 0] (Sy.O.steps [36] (Sy.O.steps [0] (Sy.O.steps [37] (Sy.O.steps [0] (Sy.O.steps [36] (Sy.O.steps [0] Sy.O.nil))))))))))))))))))))))))))))))))))))))))))))))))))))))))))))))))))))))))))))))))))))))))))))))))))))))))))))))))))))))))))))))))))))))))))))))))))))))))))))))))))))))))))))))))))))))))))))))))))))))))))))))))))))))))))))))))))))))))))))))))))))))))))))))))))))))))))))))))))))))))))))))))))))))))))))))))))))))))))))))))))))))))))))))))))))))))))))))))))))))))))))))))))))))))))))))))))))))))))))))))))))))))))))))))))))))))))))))))))))))))))))))))))))))))))))))))))))))))))))))))))))))))))))))))))))))))))))))))))))))))))))))))))))))))))))))))))))))))))))))))))))))))))))))))))))))))))))))))))))))))))))))))
def pl3_ps : List Nat := [30, 1, 4, 5, 6, 7, 8, 9, 10, 11, 12, 13, 14, 15, 16, 17, 18, 19, 20, 21, 22, 23, 24, 25, 26, 27, 28, 29]
noncomputable def pl3_v (ns : List Sy.Let) : Value := Value.tuple
 (Array.mk
 [Value.agg
 (Array.mk
 [Value.slice none (0 : Nat) (0 : Nat),
 Value.slice (some (Addr.mk (Sy.letN (2 : Nat) ns) (0 : Nat) none)) (1 : Nat) (Sy.letN (3 : Nat) ns),
 Value.slice (some (Addr.mk (Sy.letN (0 : Nat) ns) (0 : Nat) none)) (1 : Nat) (Sy.letN (1 : Nat) ns)]),
 Value.agg
 (Array.mk [Value.int IntKind.i64 (0 : Int), Value.int IntKind.i64 (0 : Int), Value.int IntKind.i64 (0 : Int)])])
noncomputable def pl3_nw (ns : List Sy.Let) : List (Nat × Sy.Cont) := [(Sy.letN 0 ns, Sy.Cont.row (84 : Nat) (2 : Nat) (1 : Nat) (Sy.letN (1 : Nat) ns)
 [Value.int IntKind.i64 (1 : Int), Value.int IntKind.i64 (1 : Int)]), (Sy.letN 2 ns, Sy.Cont.row (57 : Nat) (1 : Nat) (1 : Nat) (Sy.letN (3 : Nat) ns)
 [Value.slice (some (Addr.mk (Sy.letN (4 : Nat) ns) (0 : Nat) none)) (25 : Nat) (Sy.letN (5 : Nat) ns)]), (Sy.letN 4 ns, Sy.Cont.row (59 : Nat) (15 : Nat) (25 : Nat) (Sy.letN (5 : Nat) ns)
 [Value.int IntKind.i64 (1 : Int), Value.bool true,
 Value.string (ByteArray.mk (Array.mk [(118 : UInt8), (97 : UInt8)])), Value.string (ByteArray.mk (Array.mk [])),
 Value.int IntKind.i64 (0 : Int), Value.int IntKind.i64 (0 : Int), Value.slice none (0 : Nat) (0 : Nat),
 Value.slice (some (Addr.mk (Sy.letN (54 : Nat) ns) (0 : Nat) none)) (1 : Nat) (1 : Nat),
 Value.int IntKind.i64 (0 : Int), Value.slice none (0 : Nat) (0 : Nat), Value.slice none (0 : Nat) (0 : Nat),
 Value.int IntKind.i64 (1 : Int), Value.int IntKind.i64 (10 : Int), Value.int IntKind.i64 (0 : Int),
 Value.int IntKind.i64 (0 : Int), Value.int IntKind.i64 (1 : Int), Value.bool true,
 Value.string (ByteArray.mk (Array.mk [(118 : UInt8), (98 : UInt8)])), Value.string (ByteArray.mk (Array.mk [])),
 Value.int IntKind.i64 (0 : Int), Value.int IntKind.i64 (0 : Int), Value.slice none (0 : Nat) (0 : Nat),
 Value.slice (some (Addr.mk (Sy.letN (52 : Nat) ns) (0 : Nat) none)) (1 : Nat) (1 : Nat),
 Value.int IntKind.i64 (0 : Int), Value.slice none (0 : Nat) (0 : Nat), Value.slice none (0 : Nat) (0 : Nat),
 Value.int IntKind.i64 (1 : Int), Value.int IntKind.i64 (22 : Int), Value.int IntKind.i64 (0 : Int),
 Value.int IntKind.i64 (0 : Int), Value.int IntKind.i64 (1 : Int), Value.bool true,
 Value.string (ByteArray.mk (Array.mk [(118 : UInt8), (99 : UInt8)])), Value.string (ByteArray.mk (Array.mk [])),
 Value.int IntKind.i64 (0 : Int), Value.int IntKind.i64 (0 : Int), Value.slice none (0 : Nat) (0 : Nat),
 Value.slice (some (Addr.mk (Sy.letN (50 : Nat) ns) (0 : Nat) none)) (1 : Nat) (1 : Nat),
 Value.int IntKind.i64 (0 : Int), Value.slice none (0 : Nat) (0 : Nat), Value.slice none (0 : Nat) (0 : Nat),
 Value.int IntKind.i64 (1 : Int), Value.int IntKind.i64 (34 : Int), Value.int IntKind.i64 (0 : Int),
 Value.int IntKind.i64 (0 : Int), Value.int IntKind.i64 (1 : Int), Value.bool true,
 Value.string (ByteArray.mk (Array.mk [(118 : UInt8), (100 : UInt8)])), Value.string (ByteArray.mk (Array.mk [])),
 Value.int IntKind.i64 (0 : Int), Value.int IntKind.i64 (0 : Int), Value.slice none (0 : Nat) (0 : Nat),
 Value.slice (some (Addr.mk (Sy.letN (48 : Nat) ns) (0 : Nat) none)) (1 : Nat) (1 : Nat),
 Value.int IntKind.i64 (0 : Int), Value.slice none (0 : Nat) (0 : Nat), Value.slice none (0 : Nat) (0 : Nat),
 Value.int IntKind.i64 (1 : Int), Value.int IntKind.i64 (46 : Int), Value.int IntKind.i64 (0 : Int),
 Value.int IntKind.i64 (0 : Int), Value.int IntKind.i64 (1 : Int), Value.bool true,
 Value.string (ByteArray.mk (Array.mk [(118 : UInt8), (101 : UInt8)])), Value.string (ByteArray.mk (Array.mk [])),
 Value.int IntKind.i64 (0 : Int), Value.int IntKind.i64 (0 : Int), Value.slice none (0 : Nat) (0 : Nat),
 Value.slice (some (Addr.mk (Sy.letN (46 : Nat) ns) (0 : Nat) none)) (1 : Nat) (1 : Nat),
 Value.int IntKind.i64 (0 : Int), Value.slice none (0 : Nat) (0 : Nat), Value.slice none (0 : Nat) (0 : Nat),
 Value.int IntKind.i64 (1 : Int), Value.int IntKind.i64 (58 : Int), Value.int IntKind.i64 (0 : Int),
 Value.int IntKind.i64 (0 : Int), Value.int IntKind.i64 (1 : Int), Value.bool true,
 Value.string (ByteArray.mk (Array.mk [(118 : UInt8), (102 : UInt8)])), Value.string (ByteArray.mk (Array.mk [])),
 Value.int IntKind.i64 (0 : Int), Value.int IntKind.i64 (0 : Int), Value.slice none (0 : Nat) (0 : Nat),
 Value.slice (some (Addr.mk (Sy.letN (44 : Nat) ns) (0 : Nat) none)) (1 : Nat) (1 : Nat),
 Value.int IntKind.i64 (0 : Int), Value.slice none (0 : Nat) (0 : Nat), Value.slice none (0 : Nat) (0 : Nat),
 Value.int IntKind.i64 (1 : Int), Value.int IntKind.i64 (70 : Int), Value.int IntKind.i64 (0 : Int),
 Value.int IntKind.i64 (0 : Int), Value.int IntKind.i64 (1 : Int), Value.bool true,
 Value.string (ByteArray.mk (Array.mk [(118 : UInt8), (103 : UInt8)])), Value.string (ByteArray.mk (Array.mk [])),
 Value.int IntKind.i64 (0 : Int), Value.int IntKind.i64 (0 : Int), Value.slice none (0 : Nat) (0 : Nat),
 Value.slice (some (Addr.mk (Sy.letN (42 : Nat) ns) (0 : Nat) none)) (1 : Nat) (1 : Nat),
 Value.int IntKind.i64 (0 : Int), Value.slice none (0 : Nat) (0 : Nat), Value.slice none (0 : Nat) (0 : Nat),
 Value.int IntKind.i64 (1 : Int), Value.int IntKind.i64 (82 : Int), Value.int IntKind.i64 (0 : Int),
 Value.int IntKind.i64 (0 : Int), Value.int IntKind.i64 (1 : Int), Value.bool true,
 Value.string (ByteArray.mk (Array.mk [(118 : UInt8), (104 : UInt8)])), Value.string (ByteArray.mk (Array.mk [])),
 Value.int IntKind.i64 (0 : Int), Value.int IntKind.i64 (0 : Int), Value.slice none (0 : Nat) (0 : Nat),
 Value.slice (some (Addr.mk (Sy.letN (40 : Nat) ns) (0 : Nat) none)) (1 : Nat) (1 : Nat),
 Value.int IntKind.i64 (0 : Int), Value.slice none (0 : Nat) (0 : Nat), Value.slice none (0 : Nat) (0 : Nat),
 Value.int IntKind.i64 (1 : Int), Value.int IntKind.i64 (94 : Int), Value.int IntKind.i64 (0 : Int),
 Value.int IntKind.i64 (0 : Int), Value.int IntKind.i64 (1 : Int), Value.bool true,
 Value.string (ByteArray.mk (Array.mk [(118 : UInt8), (105 : UInt8)])), Value.string (ByteArray.mk (Array.mk [])),
 Value.int IntKind.i64 (0 : Int), Value.int IntKind.i64 (0 : Int), Value.slice none (0 : Nat) (0 : Nat),
 Value.slice (some (Addr.mk (Sy.letN (38 : Nat) ns) (0 : Nat) none)) (1 : Nat) (1 : Nat),
 Value.int IntKind.i64 (0 : Int), Value.slice none (0 : Nat) (0 : Nat), Value.slice none (0 : Nat) (0 : Nat),
 Value.int IntKind.i64 (1 : Int), Value.int IntKind.i64 (106 : Int), Value.int IntKind.i64 (0 : Int),
 Value.int IntKind.i64 (0 : Int), Value.int IntKind.i64 (1 : Int), Value.bool true,
 Value.string (ByteArray.mk (Array.mk [(118 : UInt8), (106 : UInt8)])), Value.string (ByteArray.mk (Array.mk [])),
 Value.int IntKind.i64 (0 : Int), Value.int IntKind.i64 (0 : Int), Value.slice none (0 : Nat) (0 : Nat),
 Value.slice (some (Addr.mk (Sy.letN (36 : Nat) ns) (0 : Nat) none)) (1 : Nat) (1 : Nat),
 Value.int IntKind.i64 (0 : Int), Value.slice none (0 : Nat) (0 : Nat), Value.slice none (0 : Nat) (0 : Nat),
 Value.int IntKind.i64 (1 : Int), Value.int IntKind.i64 (118 : Int), Value.int IntKind.i64 (0 : Int),
 Value.int IntKind.i64 (0 : Int), Value.int IntKind.i64 (1 : Int), Value.bool true,
 Value.string (ByteArray.mk (Array.mk [(118 : UInt8), (107 : UInt8)])), Value.string (ByteArray.mk (Array.mk [])),
 Value.int IntKind.i64 (0 : Int), Value.int IntKind.i64 (0 : Int), Value.slice none (0 : Nat) (0 : Nat),
 Value.slice (some (Addr.mk (Sy.letN (34 : Nat) ns) (0 : Nat) none)) (1 : Nat) (1 : Nat),
 Value.int IntKind.i64 (0 : Int), Value.slice none (0 : Nat) (0 : Nat), Value.slice none (0 : Nat) (0 : Nat),
 Value.int IntKind.i64 (1 : Int), Value.int IntKind.i64 (130 : Int), Value.int IntKind.i64 (0 : Int),
 Value.int IntKind.i64 (0 : Int), Value.int IntKind.i64 (1 : Int), Value.bool true,
 Value.string (ByteArray.mk (Array.mk [(118 : UInt8), (108 : UInt8)])), Value.string (ByteArray.mk (Array.mk [])),
 Value.int IntKind.i64 (0 : Int), Value.int IntKind.i64 (0 : Int), Value.slice none (0 : Nat) (0 : Nat),
 Value.slice (some (Addr.mk (Sy.letN (32 : Nat) ns) (0 : Nat) none)) (1 : Nat) (1 : Nat),
 Value.int IntKind.i64 (0 : Int), Value.slice none (0 : Nat) (0 : Nat), Value.slice none (0 : Nat) (0 : Nat),
 Value.int IntKind.i64 (1 : Int), Value.int IntKind.i64 (142 : Int), Value.int IntKind.i64 (0 : Int),
 Value.int IntKind.i64 (0 : Int), Value.int IntKind.i64 (1 : Int), Value.bool true,
 Value.string (ByteArray.mk (Array.mk [(118 : UInt8), (109 : UInt8)])), Value.string (ByteArray.mk (Array.mk [])),
 Value.int IntKind.i64 (0 : Int), Value.int IntKind.i64 (0 : Int), Value.slice none (0 : Nat) (0 : Nat),
 Value.slice (some (Addr.mk (Sy.letN (30 : Nat) ns) (0 : Nat) none)) (1 : Nat) (1 : Nat),
 Value.int IntKind.i64 (0 : Int), Value.slice none (0 : Nat) (0 : Nat), Value.slice none (0 : Nat) (0 : Nat),
 Value.int IntKind.i64 (1 : Int), Value.int IntKind.i64 (154 : Int), Value.int IntKind.i64 (0 : Int),
 Value.int IntKind.i64 (0 : Int), Value.int IntKind.i64 (1 : Int), Value.bool true,
 Value.string (ByteArray.mk (Array.mk [(118 : UInt8), (110 : UInt8)])), Value.string (ByteArray.mk (Array.mk [])),
 Value.int IntKind.i64 (0 : Int), Value.int IntKind.i64 (0 : Int), Value.slice none (0 : Nat) (0 : Nat),
 Value.slice (some (Addr.mk (Sy.letN (28 : Nat) ns) (0 : Nat) none)) (1 : Nat) (1 : Nat),
 Value.int IntKind.i64 (0 : Int), Value.slice none (0 : Nat) (0 : Nat), Value.slice none (0 : Nat) (0 : Nat),
 Value.int IntKind.i64 (1 : Int), Value.int IntKind.i64 (166 : Int), Value.int IntKind.i64 (0 : Int),
 Value.int IntKind.i64 (0 : Int), Value.int IntKind.i64 (1 : Int), Value.bool true,
 Value.string (ByteArray.mk (Array.mk [(118 : UInt8), (111 : UInt8)])), Value.string (ByteArray.mk (Array.mk [])),
 Value.int IntKind.i64 (0 : Int), Value.int IntKind.i64 (0 : Int), Value.slice none (0 : Nat) (0 : Nat),
 Value.slice (some (Addr.mk (Sy.letN (26 : Nat) ns) (0 : Nat) none)) (1 : Nat) (1 : Nat),
 Value.int IntKind.i64 (0 : Int), Value.slice none (0 : Nat) (0 : Nat), Value.slice none (0 : Nat) (0 : Nat),
 Value.int IntKind.i64 (1 : Int), Value.int IntKind.i64 (178 : Int), Value.int IntKind.i64 (0 : Int),
 Value.int IntKind.i64 (0 : Int), Value.int IntKind.i64 (1 : Int), Value.bool true,
 Value.string (ByteArray.mk (Array.mk [(118 : UInt8), (112 : UInt8)])), Value.string (ByteArray.mk (Array.mk [])),
 Value.int IntKind.i64 (0 : Int), Value.int IntKind.i64 (0 : Int), Value.slice none (0 : Nat) (0 : Nat),
 Value.slice (some (Addr.mk (Sy.letN (24 : Nat) ns) (0 : Nat) none)) (1 : Nat) (1 : Nat),
 Value.int IntKind.i64 (0 : Int), Value.slice none (0 : Nat) (0 : Nat), Value.slice none (0 : Nat) (0 : Nat),
 Value.int IntKind.i64 (1 : Int), Value.int IntKind.i64 (190 : Int), Value.int IntKind.i64 (0 : Int),
 Value.int IntKind.i64 (0 : Int), Value.int IntKind.i64 (1 : Int), Value.bool true,
 Value.string (ByteArray.mk (Array.mk [(118 : UInt8), (113 : UInt8)])), Value.string (ByteArray.mk (Array.mk [])),
 Value.int IntKind.i64 (0 : Int), Value.int IntKind.i64 (0 : Int), Value.slice none (0 : Nat) (0 : Nat),
 Value.slice (some (Addr.mk (Sy.letN (22 : Nat) ns) (0 : Nat) none)) (1 : Nat) (1 : Nat),
 Value.int IntKind.i64 (0 : Int), Value.slice none (0 : Nat) (0 : Nat), Value.slice none (0 : Nat) (0 : Nat),
 Value.int IntKind.i64 (1 : Int), Value.int IntKind.i64 (202 : Int), Value.int IntKind.i64 (0 : Int),
 Value.int IntKind.i64 (0 : Int), Value.int IntKind.i64 (1 : Int), Value.bool true,
 Value.string (ByteArray.mk (Array.mk [(118 : UInt8), (114 : UInt8)])), Value.string (ByteArray.mk (Array.mk [])),
 Value.int IntKind.i64 (0 : Int), Value.int IntKind.i64 (0 : Int), Value.slice none (0 : Nat) (0 : Nat),
 Value.slice (some (Addr.mk (Sy.letN (20 : Nat) ns) (0 : Nat) none)) (1 : Nat) (1 : Nat),
 Value.int IntKind.i64 (0 : Int), Value.slice none (0 : Nat) (0 : Nat), Value.slice none (0 : Nat) (0 : Nat),
 Value.int IntKind.i64 (1 : Int), Value.int IntKind.i64 (214 : Int), Value.int IntKind.i64 (0 : Int),
 Value.int IntKind.i64 (0 : Int), Value.int IntKind.i64 (1 : Int), Value.bool true,
 Value.string (ByteArray.mk (Array.mk [(118 : UInt8), (115 : UInt8)])), Value.string (ByteArray.mk (Array.mk [])),
 Value.int IntKind.i64 (0 : Int), Value.int IntKind.i64 (0 : Int), Value.slice none (0 : Nat) (0 : Nat),
 Value.slice (some (Addr.mk (Sy.letN (18 : Nat) ns) (0 : Nat) none)) (1 : Nat) (1 : Nat),
 Value.int IntKind.i64 (0 : Int), Value.slice none (0 : Nat) (0 : Nat), Value.slice none (0 : Nat) (0 : Nat),
 Value.int IntKind.i64 (1 : Int), Value.int IntKind.i64 (226 : Int), Value.int IntKind.i64 (0 : Int),
 Value.int IntKind.i64 (0 : Int), Value.int IntKind.i64 (1 : Int), Value.bool true,
 Value.string (ByteArray.mk (Array.mk [(118 : UInt8), (116 : UInt8)])), Value.string (ByteArray.mk (Array.mk [])),
 Value.int IntKind.i64 (0 : Int), Value.int IntKind.i64 (0 : Int), Value.slice none (0 : Nat) (0 : Nat),
 Value.slice (some (Addr.mk (Sy.letN (16 : Nat) ns) (0 : Nat) none)) (1 : Nat) (1 : Nat),
 Value.int IntKind.i64 (0 : Int), Value.slice none (0 : Nat) (0 : Nat), Value.slice none (0 : Nat) (0 : Nat),
 Value.int IntKind.i64 (1 : Int), Value.int IntKind.i64 (238 : Int), Value.int IntKind.i64 (0 : Int),
 Value.int IntKind.i64 (0 : Int), Value.int IntKind.i64 (1 : Int), Value.bool true,
 Value.string (ByteArray.mk (Array.mk [(118 : UInt8), (117 : UInt8)])), Value.string (ByteArray.mk (Array.mk [])),
 Value.int IntKind.i64 (0 : Int), Value.int IntKind.i64 (0 : Int), Value.slice none (0 : Nat) (0 : Nat),
 Value.slice (some (Addr.mk (Sy.letN (14 : Nat) ns) (0 : Nat) none)) (1 : Nat) (1 : Nat),
 Value.int IntKind.i64 (0 : Int), Value.slice none (0 : Nat) (0 : Nat), Value.slice none (0 : Nat) (0 : Nat),
 Value.int IntKind.i64 (1 : Int), Value.int IntKind.i64 (250 : Int), Value.int IntKind.i64 (0 : Int),
 Value.int IntKind.i64 (0 : Int), Value.int IntKind.i64 (1 : Int), Value.bool true,
 Value.string (ByteArray.mk (Array.mk [(118 : UInt8), (118 : UInt8)])), Value.string (ByteArray.mk (Array.mk [])),
 Value.int IntKind.i64 (0 : Int), Value.int IntKind.i64 (0 : Int), Value.slice none (0 : Nat) (0 : Nat),
 Value.slice (some (Addr.mk (Sy.letN (12 : Nat) ns) (0 : Nat) none)) (1 : Nat) (1 : Nat),
 Value.int IntKind.i64 (0 : Int), Value.slice none (0 : Nat) (0 : Nat), Value.slice none (0 : Nat) (0 : Nat),
 Value.int IntKind.i64 (1 : Int), Value.int IntKind.i64 (262 : Int), Value.int IntKind.i64 (0 : Int),
 Value.int IntKind.i64 (0 : Int), Value.int IntKind.i64 (1 : Int), Value.bool true,
 Value.string (ByteArray.mk (Array.mk [(118 : UInt8), (119 : UInt8)])), Value.string (ByteArray.mk (Array.mk [])),
 Value.int IntKind.i64 (0 : Int), Value.int IntKind.i64 (0 : Int), Value.slice none (0 : Nat) (0 : Nat),
 Value.slice (some (Addr.mk (Sy.letN (10 : Nat) ns) (0 : Nat) none)) (1 : Nat) (1 : Nat),
 Value.int IntKind.i64 (0 : Int), Value.slice none (0 : Nat) (0 : Nat), Value.slice none (0 : Nat) (0 : Nat),
 Value.int IntKind.i64 (1 : Int), Value.int IntKind.i64 (274 : Int), Value.int IntKind.i64 (0 : Int),
 Value.int IntKind.i64 (0 : Int), Value.int IntKind.i64 (1 : Int), Value.bool true,
 Value.string (ByteArray.mk (Array.mk [(118 : UInt8), (120 : UInt8)])), Value.string (ByteArray.mk (Array.mk [])),
 Value.int IntKind.i64 (0 : Int), Value.int IntKind.i64 (0 : Int), Value.slice none (0 : Nat) (0 : Nat),
 Value.slice (some (Addr.mk (Sy.letN (8 : Nat) ns) (0 : Nat) none)) (1 : Nat) (1 : Nat),
 Value.int IntKind.i64 (0 : Int), Value.slice none (0 : Nat) (0 : Nat), Value.slice none (0 : Nat) (0 : Nat),
 Value.int IntKind.i64 (1 : Int), Value.int IntKind.i64 (286 : Int), Value.int IntKind.i64 (0 : Int),
 Value.int IntKind.i64 (0 : Int), Value.int IntKind.i64 (1 : Int), Value.bool true,
 Value.string (ByteArray.mk (Array.mk [(119 : UInt8)])), Value.string (ByteArray.mk (Array.mk [])),
 Value.int IntKind.i64 (0 : Int), Value.int IntKind.i64 (0 : Int), Value.slice none (0 : Nat) (0 : Nat),
 Value.slice (some (Addr.mk (Sy.letN (6 : Nat) ns) (0 : Nat) none)) (1 : Nat) (1 : Nat),
 Value.int IntKind.i64 (0 : Int), Value.slice none (0 : Nat) (0 : Nat), Value.slice none (0 : Nat) (0 : Nat),
 Value.int IntKind.i64 (1 : Int), Value.int IntKind.i64 (298 : Int), Value.int IntKind.i64 (0 : Int),
 Value.int IntKind.i64 (0 : Int)]), (Sy.letN 6 ns, Sy.Cont.obj
 (Obj.cells
 (Array.mk
 [Value.int IntKind.i64 (1 : Int), Value.int IntKind.u64 (1 : Int), Value.string (ByteArray.mk (Array.mk [])),
 Value.int IntKind.i64 (1 : Int), Value.int IntKind.i64 (306 : Int), Value.slice none (0 : Nat) (0 : Nat)])
 (54 : Nat))), (Sy.letN 8 ns, Sy.Cont.obj
 (Obj.cells
 (Array.mk
 [Value.int IntKind.i64 (1 : Int), Value.int IntKind.u64 (1 : Int), Value.string (ByteArray.mk (Array.mk [])),
 Value.int IntKind.i64 (1 : Int), Value.int IntKind.i64 (295 : Int), Value.slice none (0 : Nat) (0 : Nat)])
 (54 : Nat))), (Sy.letN 10 ns, Sy.Cont.obj
 (Obj.cells
 (Array.mk
 [Value.int IntKind.i64 (1 : Int), Value.int IntKind.u64 (1 : Int), Value.string (ByteArray.mk (Array.mk [])),
 Value.int IntKind.i64 (1 : Int), Value.int IntKind.i64 (283 : Int), Value.slice none (0 : Nat) (0 : Nat)])
 (54 : Nat))), (Sy.letN 12 ns, Sy.Cont.obj
 (Obj.cells
 (Array.mk
 [Value.int IntKind.i64 (1 : Int), Value.int IntKind.u64 (1 : Int), Value.string (ByteArray.mk (Array.mk [])),
 Value.int IntKind.i64 (1 : Int), Value.int IntKind.i64 (271 : Int), Value.slice none (0 : Nat) (0 : Nat)])
 (54 : Nat))), (Sy.letN 14 ns, Sy.Cont.obj
 (Obj.cells
 (Array.mk
 [Value.int IntKind.i64 (1 : Int), Value.int IntKind.u64 (1 : Int), Value.string (ByteArray.mk (Array.mk [])),
 Value.int IntKind.i64 (1 : Int), Value.int IntKind.i64 (259 : Int), Value.slice none (0 : Nat) (0 : Nat)])
 (54 : Nat))), (Sy.letN 16 ns, Sy.Cont.obj
 (Obj.cells
 (Array.mk
 [Value.int IntKind.i64 (1 : Int), Value.int IntKind.u64 (1 : Int), Value.string (ByteArray.mk (Array.mk [])),
 Value.int IntKind.i64 (1 : Int), Value.int IntKind.i64 (247 : Int), Value.slice none (0 : Nat) (0 : Nat)])
 (54 : Nat))), (Sy.letN 18 ns, Sy.Cont.obj
 (Obj.cells
 (Array.mk
 [Value.int IntKind.i64 (1 : Int), Value.int IntKind.u64 (1 : Int), Value.string (ByteArray.mk (Array.mk [])),
 Value.int IntKind.i64 (1 : Int), Value.int IntKind.i64 (235 : Int), Value.slice none (0 : Nat) (0 : Nat)])
 (54 : Nat))), (Sy.letN 20 ns, Sy.Cont.obj
 (Obj.cells
 (Array.mk
 [Value.int IntKind.i64 (1 : Int), Value.int IntKind.u64 (1 : Int), Value.string (ByteArray.mk (Array.mk [])),
 Value.int IntKind.i64 (1 : Int), Value.int IntKind.i64 (223 : Int), Value.slice none (0 : Nat) (0 : Nat)])
 (54 : Nat))), (Sy.letN 22 ns, Sy.Cont.obj
 (Obj.cells
 (Array.mk
 [Value.int IntKind.i64 (1 : Int), Value.int IntKind.u64 (1 : Int), Value.string (ByteArray.mk (Array.mk [])),
 Value.int IntKind.i64 (1 : Int), Value.int IntKind.i64 (211 : Int), Value.slice none (0 : Nat) (0 : Nat)])
 (54 : Nat))), (Sy.letN 24 ns, Sy.Cont.obj
 (Obj.cells
 (Array.mk
 [Value.int IntKind.i64 (1 : Int), Value.int IntKind.u64 (1 : Int), Value.string (ByteArray.mk (Array.mk [])),
 Value.int IntKind.i64 (1 : Int), Value.int IntKind.i64 (199 : Int), Value.slice none (0 : Nat) (0 : Nat)])
 (54 : Nat))), (Sy.letN 26 ns, Sy.Cont.obj
 (Obj.cells
 (Array.mk
 [Value.int IntKind.i64 (1 : Int), Value.int IntKind.u64 (1 : Int), Value.string (ByteArray.mk (Array.mk [])),
 Value.int IntKind.i64 (1 : Int), Value.int IntKind.i64 (187 : Int), Value.slice none (0 : Nat) (0 : Nat)])
 (54 : Nat))), (Sy.letN 28 ns, Sy.Cont.obj
 (Obj.cells
 (Array.mk
 [Value.int IntKind.i64 (1 : Int), Value.int IntKind.u64 (1 : Int), Value.string (ByteArray.mk (Array.mk [])),
 Value.int IntKind.i64 (1 : Int), Value.int IntKind.i64 (175 : Int), Value.slice none (0 : Nat) (0 : Nat)])
 (54 : Nat))), (Sy.letN 30 ns, Sy.Cont.obj
 (Obj.cells
 (Array.mk
 [Value.int IntKind.i64 (1 : Int), Value.int IntKind.u64 (1 : Int), Value.string (ByteArray.mk (Array.mk [])),
 Value.int IntKind.i64 (1 : Int), Value.int IntKind.i64 (163 : Int), Value.slice none (0 : Nat) (0 : Nat)])
 (54 : Nat))), (Sy.letN 32 ns, Sy.Cont.obj
 (Obj.cells
 (Array.mk
 [Value.int IntKind.i64 (1 : Int), Value.int IntKind.u64 (1 : Int), Value.string (ByteArray.mk (Array.mk [])),
 Value.int IntKind.i64 (1 : Int), Value.int IntKind.i64 (151 : Int), Value.slice none (0 : Nat) (0 : Nat)])
 (54 : Nat))), (Sy.letN 34 ns, Sy.Cont.obj
 (Obj.cells
 (Array.mk
 [Value.int IntKind.i64 (1 : Int), Value.int IntKind.u64 (1 : Int), Value.string (ByteArray.mk (Array.mk [])),
 Value.int IntKind.i64 (1 : Int), Value.int IntKind.i64 (139 : Int), Value.slice none (0 : Nat) (0 : Nat)])
 (54 : Nat))), (Sy.letN 36 ns, Sy.Cont.obj
 (Obj.cells
 (Array.mk
 [Value.int IntKind.i64 (1 : Int), Value.int IntKind.u64 (1 : Int), Value.string (ByteArray.mk (Array.mk [])),
 Value.int IntKind.i64 (1 : Int), Value.int IntKind.i64 (127 : Int), Value.slice none (0 : Nat) (0 : Nat)])
 (54 : Nat))), (Sy.letN 38 ns, Sy.Cont.obj
 (Obj.cells
 (Array.mk
 [Value.int IntKind.i64 (1 : Int), Value.int IntKind.u64 (1 : Int), Value.string (ByteArray.mk (Array.mk [])),
 Value.int IntKind.i64 (1 : Int), Value.int IntKind.i64 (115 : Int), Value.slice none (0 : Nat) (0 : Nat)])
 (54 : Nat))), (Sy.letN 40 ns, Sy.Cont.obj
 (Obj.cells
 (Array.mk
 [Value.int IntKind.i64 (1 : Int), Value.int IntKind.u64 (1 : Int), Value.string (ByteArray.mk (Array.mk [])),
 Value.int IntKind.i64 (1 : Int), Value.int IntKind.i64 (103 : Int), Value.slice none (0 : Nat) (0 : Nat)])
 (54 : Nat))), (Sy.letN 42 ns, Sy.Cont.obj
 (Obj.cells
 (Array.mk
 [Value.int IntKind.i64 (1 : Int), Value.int IntKind.u64 (1 : Int), Value.string (ByteArray.mk (Array.mk [])),
 Value.int IntKind.i64 (1 : Int), Value.int IntKind.i64 (91 : Int), Value.slice none (0 : Nat) (0 : Nat)])
 (54 : Nat))), (Sy.letN 44 ns, Sy.Cont.obj
 (Obj.cells
 (Array.mk
 [Value.int IntKind.i64 (1 : Int), Value.int IntKind.u64 (1 : Int), Value.string (ByteArray.mk (Array.mk [])),
 Value.int IntKind.i64 (1 : Int), Value.int IntKind.i64 (79 : Int), Value.slice none (0 : Nat) (0 : Nat)])
 (54 : Nat))), (Sy.letN 46 ns, Sy.Cont.obj
 (Obj.cells
 (Array.mk
 [Value.int IntKind.i64 (1 : Int), Value.int IntKind.u64 (1 : Int), Value.string (ByteArray.mk (Array.mk [])),
 Value.int IntKind.i64 (1 : Int), Value.int IntKind.i64 (67 : Int), Value.slice none (0 : Nat) (0 : Nat)])
 (54 : Nat))), (Sy.letN 48 ns, Sy.Cont.obj
 (Obj.cells
 (Array.mk
 [Value.int IntKind.i64 (1 : Int), Value.int IntKind.u64 (1 : Int), Value.string (ByteArray.mk (Array.mk [])),
 Value.int IntKind.i64 (1 : Int), Value.int IntKind.i64 (55 : Int), Value.slice none (0 : Nat) (0 : Nat)])
 (54 : Nat))), (Sy.letN 50 ns, Sy.Cont.obj
 (Obj.cells
 (Array.mk
 [Value.int IntKind.i64 (1 : Int), Value.int IntKind.u64 (1 : Int), Value.string (ByteArray.mk (Array.mk [])),
 Value.int IntKind.i64 (1 : Int), Value.int IntKind.i64 (43 : Int), Value.slice none (0 : Nat) (0 : Nat)])
 (54 : Nat))), (Sy.letN 52 ns, Sy.Cont.obj
 (Obj.cells
 (Array.mk
 [Value.int IntKind.i64 (1 : Int), Value.int IntKind.u64 (1 : Int), Value.string (ByteArray.mk (Array.mk [])),
 Value.int IntKind.i64 (1 : Int), Value.int IntKind.i64 (31 : Int), Value.slice none (0 : Nat) (0 : Nat)])
 (54 : Nat))), (Sy.letN 54 ns, Sy.Cont.obj
 (Obj.cells
 (Array.mk
 [Value.int IntKind.i64 (1 : Int), Value.int IntKind.u64 (1 : Int), Value.string (ByteArray.mk (Array.mk [])),
 Value.int IntKind.i64 (1 : Int), Value.int IntKind.i64 (19 : Int), Value.slice none (0 : Nat) (0 : Nat)])
 (54 : Nat)))]
set_option maxRecDepth 1000000 in
theorem pl3_met (g c : Nat) : Sy.Meets Try.prog (Sy.graphC fParse3 (paA3 g c) [(g, .seg 0 (bcells tb3))] (List.length pl3_ps) pl3_v pl3_nw) :=
  Sy.meets_graphJ Sy.S0_holds ckH_holds mixed (n := 300) pl3_ps (by decide) (o := pl3_o) (fun ns => by kernel_rfl) (fun ns => by kernel_rfl)

end Go.Proofs.Ytbgmkefehfjicaa
