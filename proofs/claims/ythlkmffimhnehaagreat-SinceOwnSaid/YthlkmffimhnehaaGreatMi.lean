/- SinceGuards: its run, cut where the numbers have been reduced; no condition. -/
import Derived.Test.YthlkmffimhnehaaGreatY0
import Derived.Test.YthlkmffimhnehaaGreatY1
import Derived.Test.YthlkmffimhnehaaGreatY2
import Derived.Test.YthlkmffimhnehaaGreatYi0
import Derived.Test.YthlkmffimhnehaaGreatYi1
import Derived.Test.YthlkmffimhnehaaGreatYi2
import Derived.Test.YthlkmffimhnehaaGreatMh
import Derived.Test.YthlkmffimhnehaaGreatMf
namespace Go.Proofs.YthlkmffimhnehaaGreat
open Go Go.Ev
set_option maxRecDepth 10000
def fxT : Tr XF := (.node none (.node none (.node none (.node none (.node none (.node none (.node (some x63) (.node (some x127) (.node (some x255) .nil .nil) .nil) (.node none (.node none .nil .nil) .nil)) (.node (some x95) (.node none (.node none .nil .nil) .nil) (.node none (.node none .nil .nil) .nil))) (.node (some x47) (.node none (.node none (.node none .nil .nil) .nil) (.node (some x207) (.node none .nil .nil) .nil)) (.node none (.node (some x175) (.node (some x303) .nil .nil) .nil) (.node none (.node (some x367) .nil .nil) .nil)))) (.node (some x23) (.node (some x39) (.node none (.node (some x135) (.node none .nil .nil) .nil) (.node (some x199) (.node none .nil .nil) .nil)) (.node (some x103) (.node (some x167) (.node (some x295) .nil .nil) .nil) (.node none (.node none .nil .nil) .nil))) (.node none (.node (some x87) (.node none (.node none .nil .nil) .nil) (.node none (.node (some x343) .nil .nil) .nil)) (.node none (.node (some x183) (.node (some x311) .nil .nil) .nil) (.node (some x247) (.node (some x375) .nil .nil) .nil))))) (.node none (.node none (.node none (.node none (.node (some x131) (.node (some x259) .nil .nil) .nil) (.node (some x195) (.node none .nil .nil) .nil)) (.node (some x99) (.node (some x163) (.node none .nil .nil) .nil) (.node none (.node none .nil .nil) .nil))) (.node (some x51) (.node (some x83) (.node none (.node none .nil .nil) .nil) (.node none (.node (some x339) .nil .nil) .nil)) (.node none (.node (some x179) (.node (some x307) .nil .nil) .nil) (.node (some x243) (.node (some x371) .nil .nil) .nil)))) (.node none (.node (some x43) (.node none (.node (some x139) (.node none .nil .nil) .nil) (.node (some x203) (.node none .nil .nil) .nil)) (.node none (.node (some x171) (.node (some x299) .nil .nil) .nil) (.node none (.node (some x363) .nil .nil) .nil))) (.node (some x59) (.node (some x91) (.node none (.node none .nil .nil) .nil) (.node none (.node none .nil .nil) .nil)) (.node (some x123) (.node (some x187) (.node none .nil .nil) .nil) (.node (some x251) .nil .nil)))))) (.node none (.node none (.node none (.node none (.node (some x65) (.node (some x129) (.node (some x257) .nil .nil) .nil) (.node none (.node none .nil .nil) .nil)) (.node (some x97) (.node none (.node none .nil .nil) .nil) (.node none (.node none .nil .nil) .nil))) (.node (some x49) (.node none (.node none (.node none .nil .nil) .nil) (.node none (.node none .nil .nil) .nil)) (.node none (.node (some x177) (.node none .nil .nil) .nil) (.node none (.node (some x369) .nil .nil) .nil)))) (.node (some x25) (.node (some x41) (.node none (.node (some x137) (.node none .nil .nil) .nil) (.node (some x201) (.node none .nil .nil) .nil)) (.node (some x105) (.node (some x169) (.node (some x297) .nil .nil) .nil) (.node none (.node (some x361) .nil .nil) .nil))) (.node none (.node (some x89) (.node none (.node none .nil .nil) .nil) (.node none (.node none .nil .nil) .nil)) (.node (some x121) (.node (some x185) (.node (some x313) .nil .nil) .nil) (.node (some x249) (.node (some x377) .nil .nil) .nil))))) (.node none (.node (some x21) (.node none (.node none (.node (some x133) (.node (some x261) .nil .nil) .nil) (.node (some x197) (.node none .nil .nil) .nil)) (.node (some x101) (.node (some x165) (.node (some x293) .nil .nil) .nil) (.node none (.node none .nil .nil) .nil))) (.node (some x53) (.node (some x85) (.node none (.node none .nil .nil) .nil) (.node none (.node (some x341) .nil .nil) .nil)) (.node none (.node (some x181) (.node (some x309) .nil .nil) .nil) (.node (some x245) (.node (some x373) .nil .nil) .nil)))) (.node none (.node (some x45) (.node none (.node none (.node none .nil .nil) .nil) (.node (some x205) (.node none .nil .nil) .nil)) (.node none (.node (some x173) (.node (some x301) .nil .nil) .nil) (.node none (.node none .nil .nil) .nil))) (.node (some x61) (.node (some x93) (.node none (.node none .nil .nil) .nil) (.node none (.node none .nil .nil) .nil)) (.node (some x125) (.node none (.node none .nil .nil) .nil) (.node (some x253) .nil .nil))))))) (.node none (.node (some x4) (.node none (.node none (.node (some x32) (.node (some x64) (.node (some x128) (.node (some x256) .nil .nil) .nil) (.node none (.node none .nil .nil) .nil)) (.node (some x96) (.node none (.node none .nil .nil) .nil) (.node none (.node none .nil .nil) .nil))) (.node (some x48) (.node none (.node none (.node none .nil .nil) .nil) (.node none (.node none .nil .nil) .nil)) (.node none (.node (some x176) (.node none .nil .nil) .nil) (.node none (.node (some x368) .nil .nil) .nil)))) (.node (some x24) (.node (some x40) (.node none (.node (some x136) (.node none .nil .nil) .nil) (.node (some x200) (.node none .nil .nil) .nil)) (.node (some x104) (.node (some x168) (.node (some x296) .nil .nil) .nil) (.node none (.node none .nil .nil) .nil))) (.node (some x56) (.node (some x88) (.node none (.node none .nil .nil) .nil) (.node none (.node (some x344) .nil .nil) .nil)) (.node none (.node (some x184) (.node (some x312) .nil .nil) .nil) (.node (some x248) (.node (some x376) .nil .nil) .nil))))) (.node none (.node (some x20) (.node none (.node none (.node (some x132) (.node (some x260) .nil .nil) .nil) (.node (some x196) (.node none .nil .nil) .nil)) (.node (some x100) (.node (some x164) (.node none .nil .nil) .nil) (.node none (.node none .nil .nil) .nil))) (.node (some x52) (.node (some x84) (.node none (.node none .nil .nil) .nil) (.node none (.node (some x340) .nil .nil) .nil)) (.node none (.node (some x180) (.node (some x308) .nil .nil) .nil) (.node (some x244) (.node (some x372) .nil .nil) .nil)))) (.node none (.node (some x44) (.node none (.node none (.node none .nil .nil) .nil) (.node (some x204) (.node none .nil .nil) .nil)) (.node none (.node (some x172) (.node (some x300) .nil .nil) .nil) (.node none (.node none .nil .nil) .nil))) (.node none (.node (some x92) (.node none (.node none .nil .nil) .nil) (.node none (.node none .nil .nil) .nil)) (.node (some x124) (.node (some x188) (.node none .nil .nil) .nil) (.node none .nil .nil)))))) (.node (some x6) (.node none (.node (some x18) (.node none (.node (some x66) (.node (some x130) (.node (some x258) .nil .nil) .nil) (.node (some x194) (.node none .nil .nil) .nil)) (.node (some x98) (.node none (.node none .nil .nil) .nil) (.node none (.node none .nil .nil) .nil))) (.node (some x50) (.node none (.node none (.node none .nil .nil) .nil) (.node none (.node (some x338) .nil .nil) .nil)) (.node none (.node (some x178) (.node none .nil .nil) .nil) (.node none (.node (some x370) .nil .nil) .nil)))) (.node none (.node (some x42) (.node none (.node (some x138) (.node none .nil .nil) .nil) (.node (some x202) (.node none .nil .nil) .nil)) (.node (some x106) (.node (some x170) (.node (some x298) .nil .nil) .nil) (.node none (.node (some x362) .nil .nil) .nil))) (.node none (.node (some x90) (.node none (.node none .nil .nil) .nil) (.node none (.node none .nil .nil) .nil)) (.node (some x122) (.node (some x186) (.node none .nil .nil) .nil) (.node (some x250) .nil .nil))))) (.node none (.node (some x22) (.node none (.node none (.node (some x134) (.node none .nil .nil) .nil) (.node (some x198) (.node none .nil .nil) .nil)) (.node (some x102) (.node (some x166) (.node (some x294) .nil .nil) .nil) (.node none (.node none .nil .nil) .nil))) (.node none (.node (some x86) (.node none (.node none .nil .nil) .nil) (.node none (.node (some x342) .nil .nil) .nil)) (.node none (.node (some x182) (.node (some x310) .nil .nil) .nil) (.node (some x246) (.node (some x374) .nil .nil) .nil)))) (.node none (.node (some x46) (.node none (.node none (.node none .nil .nil) .nil) (.node (some x206) (.node none .nil .nil) .nil)) (.node none (.node (some x174) (.node (some x302) .nil .nil) .nil) (.node none (.node (some x366) .nil .nil) .nil))) (.node (some x62) (.node (some x94) (.node none (.node none .nil .nil) .nil) (.node none (.node none .nil .nil) .nil)) (.node (some x126) (.node none (.node none .nil .nil) .nil) (.node (some x254) .nil .nil))))))))
end Go.Proofs.YthlkmffimhnehaaGreat
namespace Go.Proofs.YthlkmffimhnehaaGreat
open Go Go.Ev
set_option maxRecDepth 10000
def fxL : List (Nat × XF) := [(63, x63), (127, x127), (255, x255), (95, x95), (47, x47), (207, x207), (175, x175), (303, x303), (367, x367), (23, x23), (39, x39), (135, x135), (199, x199), (103, x103), (167, x167), (295, x295), (87, x87), (343, x343), (183, x183), (311, x311), (247, x247), (375, x375), (131, x131), (259, x259), (195, x195), (99, x99), (163, x163), (51, x51), (83, x83), (339, x339), (179, x179), (307, x307), (243, x243), (371, x371), (43, x43), (139, x139), (203, x203), (171, x171), (299, x299), (363, x363), (59, x59), (91, x91), (123, x123), (187, x187), (251, x251), (65, x65), (129, x129), (257, x257), (97, x97), (49, x49), (177, x177), (369, x369), (25, x25), (41, x41), (137, x137), (201, x201), (105, x105), (169, x169), (297, x297), (361, x361), (89, x89), (121, x121), (185, x185), (313, x313), (249, x249), (377, x377), (21, x21), (133, x133), (261, x261), (197, x197), (101, x101), (165, x165), (293, x293), (53, x53), (85, x85), (341, x341), (181, x181), (309, x309), (245, x245), (373, x373), (45, x45), (205, x205), (173, x173), (301, x301), (61, x61), (93, x93), (125, x125), (253, x253), (4, x4), (32, x32), (64, x64), (128, x128), (256, x256), (96, x96), (48, x48), (176, x176), (368, x368), (24, x24), (40, x40), (136, x136), (200, x200), (104, x104), (168, x168), (296, x296), (56, x56), (88, x88), (344, x344), (184, x184), (312, x312), (248, x248), (376, x376), (20, x20), (132, x132), (260, x260), (196, x196), (100, x100), (164, x164), (52, x52), (84, x84), (340, x340), (180, x180), (308, x308), (244, x244), (372, x372), (44, x44), (204, x204), (172, x172), (300, x300), (92, x92), (124, x124), (188, x188), (6, x6), (18, x18), (66, x66), (130, x130), (258, x258), (194, x194), (98, x98), (50, x50), (338, x338), (178, x178), (370, x370), (42, x42), (138, x138), (202, x202), (106, x106), (170, x170), (298, x298), (362, x362), (90, x90), (122, x122), (186, x186), (250, x250), (22, x22), (134, x134), (198, x198), (102, x102), (166, x166), (294, x294), (86, x86), (342, x342), (182, x182), (310, x310), (246, x246), (374, x374), (46, x46), (206, x206), (174, x174), (302, x302), (366, x366), (62, x62), (94, x94), (126, x126), (254, x254)]
theorem fxL_eq : Tr.toL fxT 1 0 = fxL := by kernel_rfl
theorem fxL_ok : ∀ p ∈ fxL, ∃ fn kd, Tryz.prog.funcs[p.1]? = some fn ∧ compF tyT.get kd fn = some p.2 :=
  List.forall_mem_cons.2 ⟨fc63,
  List.forall_mem_cons.2 ⟨fc127,
  List.forall_mem_cons.2 ⟨fc255,
  List.forall_mem_cons.2 ⟨fc95,
  List.forall_mem_cons.2 ⟨fc47,
  List.forall_mem_cons.2 ⟨fc207,
  List.forall_mem_cons.2 ⟨fc175,
  List.forall_mem_cons.2 ⟨fc303,
  List.forall_mem_cons.2 ⟨fc367,
  List.forall_mem_cons.2 ⟨fc23,
  List.forall_mem_cons.2 ⟨fc39,
  List.forall_mem_cons.2 ⟨fc135,
  List.forall_mem_cons.2 ⟨fc199,
  List.forall_mem_cons.2 ⟨fc103,
  List.forall_mem_cons.2 ⟨fc167,
  List.forall_mem_cons.2 ⟨fc295,
  List.forall_mem_cons.2 ⟨fc87,
  List.forall_mem_cons.2 ⟨fc343,
  List.forall_mem_cons.2 ⟨fc183,
  List.forall_mem_cons.2 ⟨fc311,
  List.forall_mem_cons.2 ⟨fc247,
  List.forall_mem_cons.2 ⟨fc375,
  List.forall_mem_cons.2 ⟨fc131,
  List.forall_mem_cons.2 ⟨fc259,
  List.forall_mem_cons.2 ⟨fc195,
  List.forall_mem_cons.2 ⟨fc99,
  List.forall_mem_cons.2 ⟨fc163,
  List.forall_mem_cons.2 ⟨fc51,
  List.forall_mem_cons.2 ⟨fc83,
  List.forall_mem_cons.2 ⟨fc339,
  List.forall_mem_cons.2 ⟨fc179,
  List.forall_mem_cons.2 ⟨fc307,
  List.forall_mem_cons.2 ⟨fc243,
  List.forall_mem_cons.2 ⟨fc371,
  List.forall_mem_cons.2 ⟨fc43,
  List.forall_mem_cons.2 ⟨fc139,
  List.forall_mem_cons.2 ⟨fc203,
  List.forall_mem_cons.2 ⟨fc171,
  List.forall_mem_cons.2 ⟨fc299,
  List.forall_mem_cons.2 ⟨fc363,
  List.forall_mem_cons.2 ⟨fc59,
  List.forall_mem_cons.2 ⟨fc91,
  List.forall_mem_cons.2 ⟨fc123,
  List.forall_mem_cons.2 ⟨fc187,
  List.forall_mem_cons.2 ⟨fc251,
  List.forall_mem_cons.2 ⟨fc65,
  List.forall_mem_cons.2 ⟨fc129,
  List.forall_mem_cons.2 ⟨fc257,
  List.forall_mem_cons.2 ⟨fc97,
  List.forall_mem_cons.2 ⟨fc49,
  List.forall_mem_cons.2 ⟨fc177,
  List.forall_mem_cons.2 ⟨fc369,
  List.forall_mem_cons.2 ⟨fc25,
  List.forall_mem_cons.2 ⟨fc41,
  List.forall_mem_cons.2 ⟨fc137,
  List.forall_mem_cons.2 ⟨fc201,
  List.forall_mem_cons.2 ⟨fc105,
  List.forall_mem_cons.2 ⟨fc169,
  List.forall_mem_cons.2 ⟨fc297,
  List.forall_mem_cons.2 ⟨fc361,
  List.forall_mem_cons.2 ⟨fc89,
  List.forall_mem_cons.2 ⟨fc121,
  List.forall_mem_cons.2 ⟨fc185,
  List.forall_mem_cons.2 ⟨fc313,
  List.forall_mem_cons.2 ⟨fc249,
  List.forall_mem_cons.2 ⟨fc377,
  List.forall_mem_cons.2 ⟨fc21,
  List.forall_mem_cons.2 ⟨fc133,
  List.forall_mem_cons.2 ⟨fc261,
  List.forall_mem_cons.2 ⟨fc197,
  List.forall_mem_cons.2 ⟨fc101,
  List.forall_mem_cons.2 ⟨fc165,
  List.forall_mem_cons.2 ⟨fc293,
  List.forall_mem_cons.2 ⟨fc53,
  List.forall_mem_cons.2 ⟨fc85,
  List.forall_mem_cons.2 ⟨fc341,
  List.forall_mem_cons.2 ⟨fc181,
  List.forall_mem_cons.2 ⟨fc309,
  List.forall_mem_cons.2 ⟨fc245,
  List.forall_mem_cons.2 ⟨fc373,
  List.forall_mem_cons.2 ⟨fc45,
  List.forall_mem_cons.2 ⟨fc205,
  List.forall_mem_cons.2 ⟨fc173,
  List.forall_mem_cons.2 ⟨fc301,
  List.forall_mem_cons.2 ⟨fc61,
  List.forall_mem_cons.2 ⟨fc93,
  List.forall_mem_cons.2 ⟨fc125,
  List.forall_mem_cons.2 ⟨fc253,
  List.forall_mem_cons.2 ⟨fc4,
  List.forall_mem_cons.2 ⟨fc32,
  List.forall_mem_cons.2 ⟨fc64,
  List.forall_mem_cons.2 ⟨fc128,
  List.forall_mem_cons.2 ⟨fc256,
  List.forall_mem_cons.2 ⟨fc96,
  List.forall_mem_cons.2 ⟨fc48,
  List.forall_mem_cons.2 ⟨fc176,
  List.forall_mem_cons.2 ⟨fc368,
  List.forall_mem_cons.2 ⟨fc24,
  List.forall_mem_cons.2 ⟨fc40,
  List.forall_mem_cons.2 ⟨fc136,
  List.forall_mem_cons.2 ⟨fc200,
  List.forall_mem_cons.2 ⟨fc104,
  List.forall_mem_cons.2 ⟨fc168,
  List.forall_mem_cons.2 ⟨fc296,
  List.forall_mem_cons.2 ⟨fc56,
  List.forall_mem_cons.2 ⟨fc88,
  List.forall_mem_cons.2 ⟨fc344,
  List.forall_mem_cons.2 ⟨fc184,
  List.forall_mem_cons.2 ⟨fc312,
  List.forall_mem_cons.2 ⟨fc248,
  List.forall_mem_cons.2 ⟨fc376,
  List.forall_mem_cons.2 ⟨fc20,
  List.forall_mem_cons.2 ⟨fc132,
  List.forall_mem_cons.2 ⟨fc260,
  List.forall_mem_cons.2 ⟨fc196,
  List.forall_mem_cons.2 ⟨fc100,
  List.forall_mem_cons.2 ⟨fc164,
  List.forall_mem_cons.2 ⟨fc52,
  List.forall_mem_cons.2 ⟨fc84,
  List.forall_mem_cons.2 ⟨fc340,
  List.forall_mem_cons.2 ⟨fc180,
  List.forall_mem_cons.2 ⟨fc308,
  List.forall_mem_cons.2 ⟨fc244,
  List.forall_mem_cons.2 ⟨fc372,
  List.forall_mem_cons.2 ⟨fc44,
  List.forall_mem_cons.2 ⟨fc204,
  List.forall_mem_cons.2 ⟨fc172,
  List.forall_mem_cons.2 ⟨fc300,
  List.forall_mem_cons.2 ⟨fc92,
  List.forall_mem_cons.2 ⟨fc124,
  List.forall_mem_cons.2 ⟨fc188,
  List.forall_mem_cons.2 ⟨fc6,
  List.forall_mem_cons.2 ⟨fc18,
  List.forall_mem_cons.2 ⟨fc66,
  List.forall_mem_cons.2 ⟨fc130,
  List.forall_mem_cons.2 ⟨fc258,
  List.forall_mem_cons.2 ⟨fc194,
  List.forall_mem_cons.2 ⟨fc98,
  List.forall_mem_cons.2 ⟨fc50,
  List.forall_mem_cons.2 ⟨fc338,
  List.forall_mem_cons.2 ⟨fc178,
  List.forall_mem_cons.2 ⟨fc370,
  List.forall_mem_cons.2 ⟨fc42,
  List.forall_mem_cons.2 ⟨fc138,
  List.forall_mem_cons.2 ⟨fc202,
  List.forall_mem_cons.2 ⟨fc106,
  List.forall_mem_cons.2 ⟨fc170,
  List.forall_mem_cons.2 ⟨fc298,
  List.forall_mem_cons.2 ⟨fc362,
  List.forall_mem_cons.2 ⟨fc90,
  List.forall_mem_cons.2 ⟨fc122,
  List.forall_mem_cons.2 ⟨fc186,
  List.forall_mem_cons.2 ⟨fc250,
  List.forall_mem_cons.2 ⟨fc22,
  List.forall_mem_cons.2 ⟨fc134,
  List.forall_mem_cons.2 ⟨fc198,
  List.forall_mem_cons.2 ⟨fc102,
  List.forall_mem_cons.2 ⟨fc166,
  List.forall_mem_cons.2 ⟨fc294,
  List.forall_mem_cons.2 ⟨fc86,
  List.forall_mem_cons.2 ⟨fc342,
  List.forall_mem_cons.2 ⟨fc182,
  List.forall_mem_cons.2 ⟨fc310,
  List.forall_mem_cons.2 ⟨fc246,
  List.forall_mem_cons.2 ⟨fc374,
  List.forall_mem_cons.2 ⟨fc46,
  List.forall_mem_cons.2 ⟨fc206,
  List.forall_mem_cons.2 ⟨fc174,
  List.forall_mem_cons.2 ⟨fc302,
  List.forall_mem_cons.2 ⟨fc366,
  List.forall_mem_cons.2 ⟨fc62,
  List.forall_mem_cons.2 ⟨fc94,
  List.forall_mem_cons.2 ⟨fc126,
  List.forall_mem_cons.2 ⟨fc254,
  (fun _ h => nomatch h)⟩⟩⟩⟩⟩⟩⟩⟩⟩⟩⟩⟩⟩⟩⟩⟩⟩⟩⟩⟩⟩⟩⟩⟩⟩⟩⟩⟩⟩⟩⟩⟩⟩⟩⟩⟩⟩⟩⟩⟩⟩⟩⟩⟩⟩⟩⟩⟩⟩⟩⟩⟩⟩⟩⟩⟩⟩⟩⟩⟩⟩⟩⟩⟩⟩⟩⟩⟩⟩⟩⟩⟩⟩⟩⟩⟩⟩⟩⟩⟩⟩⟩⟩⟩⟩⟩⟩⟩⟩⟩⟩⟩⟩⟩⟩⟩⟩⟩⟩⟩⟩⟩⟩⟩⟩⟩⟩⟩⟩⟩⟩⟩⟩⟩⟩⟩⟩⟩⟩⟩⟩⟩⟩⟩⟩⟩⟩⟩⟩⟩⟩⟩⟩⟩⟩⟩⟩⟩⟩⟩⟩⟩⟩⟩⟩⟩⟩⟩⟩⟩⟩⟩⟩⟩⟩⟩⟩⟩⟩⟩⟩⟩⟩⟩⟩⟩⟩⟩⟩⟩⟩⟩⟩⟩
theorem fns_ok : ∀ f x, fxT.get f = some x → ∃ fn kd, Tryz.prog.funcs[f]? = some fn ∧ compF tyT.get kd fn = some x := by
  intro f x h
  have := Tr.mem_toL fxT 1 0 f x h
  rw [Nat.one_mul, Nat.add_zero, fxL_eq] at this
  exact fxL_ok _ this
end Go.Proofs.YthlkmffimhnehaaGreat
namespace Go.Proofs.YthlkmffimhnehaaGreat
open Go Go.Ev
noncomputable section
def envY : Env := ⟨fxT, prims⟩
theorem envY_ok (base : Nat) : EnvOk Tryz.prog tyT.get base envY := by
  refine ⟨fns_ok, fun f p h => ?_⟩
  have h : prims f = some p := h
  unfold prims at h
  split at h
  · rename_i hf
    rw [natBeq] at hf
    have hf := of_decide_eq_true hf
    subst hf
    injection h with h; subst h
    exact pByte_ok base
  · split at h
    · rename_i hf
      rw [natBeq] at hf
      have hf := of_decide_eq_true hf
      subst hf
      injection h with h; subst h
      exact pIndex_ok base
    · cases h
theorem callY_ok (lim d base : Nat) : CallOk Tryz.prog base (callN envY lim d) :=
  callN_ok tab (envY_ok base) (fun _ hc hv => regds_ok mixed tab hc hv) lim d
def yes : Option (AV × St) → Bool
  | some (.bool true, _) => true
  | _ => false
/-- A run that answers true is a call that answers true. -/
theorem yes_calls {lim d f : Nat} {args : List AV} (h : yes (callN envY lim d f args ⟨.nil, 0⟩) = true) {w : World} {vs : List Value} (hA : RL w ⟨fun _ => none, fun _ => none, fun _ _ => False⟩ args vs) :
    Calls Tryz.prog f vs.toArray w fun e w' => e = .returned (.bool true) ∧ RowKit.Below w.heap.size w w' := by
  unfold yes at h
  split at h
  · rename_i st hr
    refine (calls_of_run mixed tab envY_ok lim d hr hA).mono fun e w' ⟨v, g', h1, h2, h3⟩ => ?_
    rw [rep_bool h2] at h1
    exact ⟨h1, h3⟩
  · cases h
end
end Go.Proofs.YthlkmffimhnehaaGreat
namespace Go.Proofs.YthlkmffimhnehaaGreat
open Go Go.Ev
set_option maxRecDepth 100000
noncomputable section
def tell (r : Option (AV × St)) (l : AV) : Bool := match r with
  | some (r0, _) => match AV.dead r0 with
    | some x => AV.beq x l
    | none => false
  | none => false
theorem entry_of {call : Cal} {f : Nat} {args : List AV} {l : AV} (h : tell (call f args ⟨.nil, 0⟩) l = true) : Entry call f (args, l) := by
  unfold tell at h
  split at h
  · rename_i r0 st hr
    split at h
    · rename_i x hx
      exact ⟨r0, st, hr, by rw [hx, AV.beq_ok _ _ h]⟩
    · cases h
  · cases h
def isLet (n : Nat) : Bool := Nat.ble 97 n && Nat.ble n 122 || Nat.ble 65 n && Nat.ble n 90
def isDig (n : Nat) : Bool := Nat.ble 48 n && Nat.ble n 57
/-- What a call answers of each byte. -/
def allBytes (f : Nat) (p : Nat → Bool) : Nat → Bool
  | 0 => true
  | n + 1 => tell (callN envY 1000 2 f [.int .u8 (.ofNat n)] ⟨.nil, 0⟩) (.bool (p n)) && allBytes f p n
theorem allBytes_ok {f : Nat} {p : Nat → Bool} : ∀ {n : Nat}, allBytes f p n = true → ∀ k, k < n → Entry (callN envY 1000 2) f ([.int .u8 (.ofNat k)], .bool (p k)) := by
  intro n
  induction n with
  | zero => intro _ k hk; omega
  | succ n ih =>
    intro h k hk
    rw [allBytes, Bool.and_eq_true] at h
    by_cases e : k = n
    · subst e; exact entry_of h.1
    · exact ih h.2 k (by omega)
def pLet : List AV → Option AV
  | [.int .u8 (.ofNat n)] => match Nat.blt n 256 with
    | true => some (.bool (isLet n))
    | false => none
  | _ => none
def pDig : List AV → Option AV
  | [.int .u8 (.ofNat n)] => match Nat.blt n 256 with
    | true => some (.bool (isDig n))
    | false => none
  | _ => none
theorem lets : allBytes 163 isLet 256 = true := by kernel_rfl
theorem digs : allBytes 165 isDig 256 = true := by kernel_rfl
theorem pLet_ok (base : Nat) : PrimOk Tryz.prog base 163 pLet := by
  refine ⟨⟨Tryz.f163, Tryz.func163, by kernel_rfl, by kernel_rfl⟩, fun args r h st w g vs hA hI => ?_⟩
  unfold pLet at h
  split at h <;> try cases h
  rename_i n
  split at h <;> cases h
  rename_i hb
  obtain ⟨r0, st0, h1, h2⟩ := allBytes_ok lets n (by simpa [Nat.blt_eq] using hb)
  refine apart_ok (fun base => callY_ok 1000 2 base) (r := .bool (isLet n)) ?_ hA hI
  unfold apart
  have hd : AV.deadL [.int .u8 (.ofNat n)] = some [.int .u8 (.ofNat n)] := rfl
  rw [hd]
  simp only [h1]
  exact h2
theorem pDig_ok (base : Nat) : PrimOk Tryz.prog base 165 pDig := by
  refine ⟨⟨Tryz.f165, Tryz.func165, by kernel_rfl, by kernel_rfl⟩, fun args r h st w g vs hA hI => ?_⟩
  unfold pDig at h
  split at h <;> try cases h
  rename_i n
  split at h <;> cases h
  rename_i hb
  obtain ⟨r0, st0, h1, h2⟩ := allBytes_ok digs n (by simpa [Nat.blt_eq] using hb)
  refine apart_ok (fun base => callY_ok 1000 2 base) (r := .bool (isDig n)) ?_ hA hI
  unfold apart
  have hd : AV.deadL [.int .u8 (.ofNat n)] = some [.int .u8 (.ofNat n)] := rfl
  rw [hd]
  simp only [h1]
  exact h2
def resT : List (List AV × AV) := [([.str [108, 105, 98, 114, 97, 114, 121]], .bool true), ([.str [103, 101, 111]], .bool false), ([.str [114, 101, 108, 101, 97, 115, 101]], .bool true), ([.str [115, 105, 110, 99, 101]], .bool true), ([.str [112, 117, 98, 108, 105, 99]], .bool true), ([.str [102, 117, 110, 99]], .bool true), ([.str [110, 101, 119]], .bool false), ([.str [73, 110, 116]], .bool true), ([.str [99, 108, 105, 101, 110, 116]], .bool true), ([.str [97, 112, 112]], .bool false), ([.str [105, 109, 112, 111, 114, 116]], .bool true), ([.str [109, 97, 105, 110]], .bool false), ([.str [105, 102]], .bool true), ([.str [97, 118, 97, 105, 108, 97, 98, 108, 101]], .bool true), ([.str [116, 104, 101, 110]], .bool true), ([.str [101, 108, 115, 101]], .bool true), ([.str [108, 101, 116]], .bool true), ([.str [120]], .bool false), ([.str [105, 110]], .bool true), ([.str [102, 114, 111, 122, 101, 110]], .bool true), ([.str [115, 116, 114, 117, 99, 116]], .bool true), ([.str [83]], .bool false), ([.str [97]], .bool false), ([.str [102]], .bool false), ([.str [65, 114, 114, 97, 121]], .bool true), ([.str [97, 114, 114, 97, 121]], .bool true), ([.str [105, 110, 108, 105, 110, 101]], .bool true), ([.str [80]], .bool false), ([.str [117, 110, 105, 111, 110]], .bool true), ([.str [85]], .bool false), ([.str [99, 97]], .bool false)]
theorem res0 : Entry (callN envY 1000 3) 195 ([.str [108, 105, 98, 114, 97, 114, 121]], .bool true) := entry_of (by kernel_rfl)
theorem res1 : Entry (callN envY 1000 3) 195 ([.str [103, 101, 111]], .bool false) := entry_of (by kernel_rfl)
theorem res2 : Entry (callN envY 1000 3) 195 ([.str [114, 101, 108, 101, 97, 115, 101]], .bool true) := entry_of (by kernel_rfl)
theorem res3 : Entry (callN envY 1000 3) 195 ([.str [115, 105, 110, 99, 101]], .bool true) := entry_of (by kernel_rfl)
theorem res4 : Entry (callN envY 1000 3) 195 ([.str [112, 117, 98, 108, 105, 99]], .bool true) := entry_of (by kernel_rfl)
theorem res5 : Entry (callN envY 1000 3) 195 ([.str [102, 117, 110, 99]], .bool true) := entry_of (by kernel_rfl)
theorem res6 : Entry (callN envY 1000 3) 195 ([.str [110, 101, 119]], .bool false) := entry_of (by kernel_rfl)
theorem res7 : Entry (callN envY 1000 3) 195 ([.str [73, 110, 116]], .bool true) := entry_of (by kernel_rfl)
theorem res8 : Entry (callN envY 1000 3) 195 ([.str [99, 108, 105, 101, 110, 116]], .bool true) := entry_of (by kernel_rfl)
theorem res9 : Entry (callN envY 1000 3) 195 ([.str [97, 112, 112]], .bool false) := entry_of (by kernel_rfl)
theorem res10 : Entry (callN envY 1000 3) 195 ([.str [105, 109, 112, 111, 114, 116]], .bool true) := entry_of (by kernel_rfl)
theorem res11 : Entry (callN envY 1000 3) 195 ([.str [109, 97, 105, 110]], .bool false) := entry_of (by kernel_rfl)
theorem res12 : Entry (callN envY 1000 3) 195 ([.str [105, 102]], .bool true) := entry_of (by kernel_rfl)
theorem res13 : Entry (callN envY 1000 3) 195 ([.str [97, 118, 97, 105, 108, 97, 98, 108, 101]], .bool true) := entry_of (by kernel_rfl)
theorem res14 : Entry (callN envY 1000 3) 195 ([.str [116, 104, 101, 110]], .bool true) := entry_of (by kernel_rfl)
theorem res15 : Entry (callN envY 1000 3) 195 ([.str [101, 108, 115, 101]], .bool true) := entry_of (by kernel_rfl)
theorem res16 : Entry (callN envY 1000 3) 195 ([.str [108, 101, 116]], .bool true) := entry_of (by kernel_rfl)
theorem res17 : Entry (callN envY 1000 3) 195 ([.str [120]], .bool false) := entry_of (by kernel_rfl)
theorem res18 : Entry (callN envY 1000 3) 195 ([.str [105, 110]], .bool true) := entry_of (by kernel_rfl)
theorem res19 : Entry (callN envY 1000 3) 195 ([.str [102, 114, 111, 122, 101, 110]], .bool true) := entry_of (by kernel_rfl)
theorem res20 : Entry (callN envY 1000 3) 195 ([.str [115, 116, 114, 117, 99, 116]], .bool true) := entry_of (by kernel_rfl)
theorem res21 : Entry (callN envY 1000 3) 195 ([.str [83]], .bool false) := entry_of (by kernel_rfl)
theorem res22 : Entry (callN envY 1000 3) 195 ([.str [97]], .bool false) := entry_of (by kernel_rfl)
theorem res23 : Entry (callN envY 1000 3) 195 ([.str [102]], .bool false) := entry_of (by kernel_rfl)
theorem res24 : Entry (callN envY 1000 3) 195 ([.str [65, 114, 114, 97, 121]], .bool true) := entry_of (by kernel_rfl)
theorem res25 : Entry (callN envY 1000 3) 195 ([.str [97, 114, 114, 97, 121]], .bool true) := entry_of (by kernel_rfl)
theorem res26 : Entry (callN envY 1000 3) 195 ([.str [105, 110, 108, 105, 110, 101]], .bool true) := entry_of (by kernel_rfl)
theorem res27 : Entry (callN envY 1000 3) 195 ([.str [80]], .bool false) := entry_of (by kernel_rfl)
theorem res28 : Entry (callN envY 1000 3) 195 ([.str [117, 110, 105, 111, 110]], .bool true) := entry_of (by kernel_rfl)
theorem res29 : Entry (callN envY 1000 3) 195 ([.str [85]], .bool false) := entry_of (by kernel_rfl)
theorem res30 : Entry (callN envY 1000 3) 195 ([.str [99, 97]], .bool false) := entry_of (by kernel_rfl)
theorem resT_ok : ∀ p ∈ resT, Entry (callN envY 1000 3) 195 p :=
  List.forall_mem_cons.2 ⟨res0,
  List.forall_mem_cons.2 ⟨res1,
  List.forall_mem_cons.2 ⟨res2,
  List.forall_mem_cons.2 ⟨res3,
  List.forall_mem_cons.2 ⟨res4,
  List.forall_mem_cons.2 ⟨res5,
  List.forall_mem_cons.2 ⟨res6,
  List.forall_mem_cons.2 ⟨res7,
  List.forall_mem_cons.2 ⟨res8,
  List.forall_mem_cons.2 ⟨res9,
  List.forall_mem_cons.2 ⟨res10,
  List.forall_mem_cons.2 ⟨res11,
  List.forall_mem_cons.2 ⟨res12,
  List.forall_mem_cons.2 ⟨res13,
  List.forall_mem_cons.2 ⟨res14,
  List.forall_mem_cons.2 ⟨res15,
  List.forall_mem_cons.2 ⟨res16,
  List.forall_mem_cons.2 ⟨res17,
  List.forall_mem_cons.2 ⟨res18,
  List.forall_mem_cons.2 ⟨res19,
  List.forall_mem_cons.2 ⟨res20,
  List.forall_mem_cons.2 ⟨res21,
  List.forall_mem_cons.2 ⟨res22,
  List.forall_mem_cons.2 ⟨res23,
  List.forall_mem_cons.2 ⟨res24,
  List.forall_mem_cons.2 ⟨res25,
  List.forall_mem_cons.2 ⟨res26,
  List.forall_mem_cons.2 ⟨res27,
  List.forall_mem_cons.2 ⟨res28,
  List.forall_mem_cons.2 ⟨res29,
  List.forall_mem_cons.2 ⟨res30,
  (fun _ h => nomatch h)⟩⟩⟩⟩⟩⟩⟩⟩⟩⟩⟩⟩⟩⟩⟩⟩⟩⟩⟩⟩⟩⟩⟩⟩⟩⟩⟩⟩⟩⟩⟩
def prW (f : Nat) : Option (List AV → Option AV) := match Nat.beq f 163 with
  | true => some pLet
  | false => match Nat.beq f 165 with
    | true => some pDig
    | false => match Nat.beq f 195 with
      | true => some (memo resT)
      | false => prims f
def envW : Env := ⟨fxT, prW⟩
theorem envW_ok (base : Nat) : EnvOk Tryz.prog tyT.get base envW := by
  refine ⟨fns_ok, fun f p h => ?_⟩
  have h : prW f = some p := h
  unfold prW at h
  split at h
  · rename_i hf
    rw [natBeq] at hf
    have hf := of_decide_eq_true hf
    subst hf
    injection h with h; subst h
    exact pLet_ok base
  · split at h
    · rename_i hf
      rw [natBeq] at hf
      have hf := of_decide_eq_true hf
      subst hf
      injection h with h; subst h
      exact pDig_ok base
    · split at h
      · rename_i hf
        rw [natBeq] at hf
        have hf := of_decide_eq_true hf
        subst hf
        injection h with h; subst h
        exact memo_ok (fun base => callY_ok 1000 3 base) resT_ok ⟨Tryz.f195, Tryz.func195, by kernel_rfl, by kernel_rfl⟩ base
      · exact (envY_ok base).prim f p h
theorem callW_ok (lim d base : Nat) : CallOk Tryz.prog base (callN envW lim d) :=
  callN_ok tab (envW_ok base) (fun _ hc hv => regds_ok mixed tab hc hv) lim d
end
end Go.Proofs.YthlkmffimhnehaaGreat
namespace Go.Proofs.YthlkmffimhnehaaGreat
open Go Go.Ev
noncomputable section
def libT (a : UInt8) : List UInt8 := [108, 105, 98, 114, 97, 114, 121, 32, 103, 101, 111, 32, 114, 101, 108, 101, 97, 115, 101, 32, 52, 59, 32, 115, 105, 110, 99, 101, 32, a, 32, 112, 117, 98, 108, 105, 99, 32, 102, 117, 110, 99, 32, 110, 101, 119, 40, 41, 58, 32, 73, 110, 116, 32, 61, 32, 49, 59]
def clT0 (a c : UInt8) : List UInt8 := [99, 108, 105, 101, 110, 116, 32, 97, 112, 112, 59, 32, 105, 109, 112, 111, 114, 116, 32, 103, 101, 111, 32, a, 59, 32, 102, 117, 110, 99, 32, 109, 97, 105, 110, 40, 41, 58, 32, 73, 110, 116, 32, 61, 32, 105, 102, 32, 97, 118, 97, 105, 108, 97, 98, 108, 101, 40, 103, 101, 111, 44, 32, c, 41, 32, 116, 104, 101, 110, 32, 103, 101, 111, 46, 110, 101, 119, 40, 41, 32, 101, 108, 115, 101, 32, 48, 59]
def clT1 (a c : UInt8) : List UInt8 := [99, 108, 105, 101, 110, 116, 32, 97, 112, 112, 59, 32, 105, 109, 112, 111, 114, 116, 32, 103, 101, 111, 32, a, 59, 32, 102, 117, 110, 99, 32, 109, 97, 105, 110, 40, 41, 58, 32, 73, 110, 116, 32, 61, 32, 105, 102, 32, 97, 118, 97, 105, 108, 97, 98, 108, 101, 40, 103, 101, 111, 44, 32, c, 41, 32, 116, 104, 101, 110, 32, 48, 32, 101, 108, 115, 101, 32, 103, 101, 111, 46, 110, 101, 119, 40, 41, 59]
def clT2 (a c : UInt8) : List UInt8 := [99, 108, 105, 101, 110, 116, 32, 97, 112, 112, 59, 32, 105, 109, 112, 111, 114, 116, 32, 103, 101, 111, 32, a, 59, 32, 102, 117, 110, 99, 32, 109, 97, 105, 110, 40, 41, 58, 32, 73, 110, 116, 32, 61, 32, 40, 105, 102, 32, 97, 118, 97, 105, 108, 97, 98, 108, 101, 40, 103, 101, 111, 44, 32, c, 41, 32, 116, 104, 101, 110, 32, 48, 32, 101, 108, 115, 101, 32, 49, 41, 32, 43, 32, 103, 101, 111, 46, 110, 101, 119, 40, 41, 59]
def clT3 (a c : UInt8) : List UInt8 := [99, 108, 105, 101, 110, 116, 32, 97, 112, 112, 59, 32, 105, 109, 112, 111, 114, 116, 32, 103, 101, 111, 32, a, 59, 32, 102, 117, 110, 99, 32, 109, 97, 105, 110, 40, 41, 58, 32, 73, 110, 116, 32, 61, 32, 105, 102, 32, 97, 118, 97, 105, 108, 97, 98, 108, 101, 40, 103, 101, 111, 44, 32, c, 41, 32, 116, 104, 101, 110, 32, 40, 108, 101, 116, 32, 120, 32, 61, 32, 49, 32, 105, 110, 32, 120, 32, 43, 32, 103, 101, 111, 46, 110, 101, 119, 40, 41, 41, 32, 101, 108, 115, 101, 32, 48, 59]
def clT4 (a _c : UInt8) : List UInt8 := [99, 108, 105, 101, 110, 116, 32, 97, 112, 112, 59, 32, 105, 109, 112, 111, 114, 116, 32, 103, 101, 111, 32, a, 59, 32, 102, 117, 110, 99, 32, 109, 97, 105, 110, 40, 41, 58, 32, 73, 110, 116, 32, 61, 32, 105, 102, 32, 49, 32, 60, 32, 50, 32, 116, 104, 101, 110, 32, 103, 101, 111, 46, 110, 101, 119, 40, 41, 32, 101, 108, 115, 101, 32, 48, 59]
end
end Go.Proofs.YthlkmffimhnehaaGreat
namespace Go.Proofs.YthlkmffimhnehaaGreat
open Go Go.Ev Go.RowKit
set_option maxRecDepth 100000
noncomputable section
theorem seq_norm {call : Cal} {lim : Nat} {a b : XC} {tm tm' : Tr AV} {st st' : St} (h : execX call lim a tm st = .ok .norm tm' st') : execX call lim (.seq a b) tm st = execX call lim b tm' st' := by
  show (execX call lim a tm st).andThen (execX call lim b) = _
  rw [h]; rfl
def hd : XC → XC | .seq a _ => a | c => c
def tl : XC → XC | .seq _ b => b | c => c
/-- The remainder, from what the machine's division leaves. -/
def md (n q : Int) : Int := match decide (q < 0) with
  | true => IntKind.i64.wrap (q + n)
  | false => q
def T21 (p n : Int) : Tr AV := (((((((Tr.set (argsT [.int .i64 p, .int .i64 n] 0 .nil) 4 (.int .i64 0)).set 5 (.int .i64 n)).set 6 (.bool false)).set 7 (.int .i64 p)).set 8 (.int .i64 n)).set 9 (.int .i64 (p.tmod n))).set 0 (.int .i64 (p.tmod n)))
def T21q (p n q : Int) : Tr AV := (((((((Tr.set (argsT [.int .i64 p, .int .i64 n] 0 .nil) 4 (.int .i64 0)).set 5 (.int .i64 n)).set 6 (.bool false)).set 7 (.int .i64 p)).set 8 (.int .i64 n)).set 9 (.int .i64 q)).set 0 (.int .i64 q))
theorem cut1 {call : Cal} {lim : Nat} {x : XC} {tm tm' : Tr AV} {st st' : St} (e : x = .seq (hd x) (tl x)) (h : execX call lim (hd x) tm st = .ok .norm tm' st') : execX call lim x tm st = execX call lim (tl x) tm' st' := by
  conv => lhs; rw [e]
  exact seq_norm h
theorem mod_head (n : Int) (h : n = 5 ∨ n = 7) (call : Cal) (p : Int) (st : St) : execX call 1000 x21.body (argsT [.int .i64 p, .int .i64 n] 0 .nil) st = execX call 1000 (tl (tl (tl x21.body))) (T21 p n) st := by
  have e0 : x21.body = .seq (hd x21.body) (tl x21.body) := by kernel_rfl
  have e1 : tl x21.body = .seq (hd (tl x21.body)) (tl (tl x21.body)) := by kernel_rfl
  have e2 : tl (tl x21.body) = .seq (hd (tl (tl x21.body))) (tl (tl (tl x21.body))) := by kernel_rfl
  rcases h with h | h <;> subst h
  · refine (cut1 e0 (tm' := (argsT [.int .i64 p, .int .i64 5] 0 .nil).set 4 (.int .i64 0)) (st' := st) (by kernel_rfl)).trans ?_
    refine (cut1 e1 (tm' := (((argsT [.int .i64 p, .int .i64 5] 0 .nil).set 4 (.int .i64 0)).set 5 (.int .i64 5)).set 6 (.bool false)) (st' := st) (by kernel_rfl)).trans ?_
    exact cut1 e2 (tm' := T21 p 5) (by kernel_rfl)
  · refine (cut1 e0 (tm' := (argsT [.int .i64 p, .int .i64 7] 0 .nil).set 4 (.int .i64 0)) (st' := st) (by kernel_rfl)).trans ?_
    refine (cut1 e1 (tm' := (((argsT [.int .i64 p, .int .i64 7] 0 .nil).set 4 (.int .i64 0)).set 5 (.int .i64 7)).set 6 (.bool false)) (st' := st) (by kernel_rfl)).trans ?_
    exact cut1 e2 (tm' := T21 p 7) (by kernel_rfl)
def fin21 (call : Cal) (n p q : Int) (st : St) : Option (AV × St) := endF x21.res (execX call 1000 (tl (tl (tl x21.body))) (T21q p n q) st)
theorem mod_run5 (call : Cal) (p q : Int) (st : St) (h : -5 < q ∧ q < 5) : fin21 call 5 p q st = some (.int .i64 (md 5 q), st) := by
  have : q = -4 ∨ q = -3 ∨ q = -2 ∨ q = -1 ∨ q = 0 ∨ q = 1 ∨ q = 2 ∨ q = 3 ∨ q = 4 := by omega
  rcases this with h | h | h | h | h | h | h | h | h <;> subst h <;> (show fin21 _ _ _ _ _ = _; kernel_rfl)
theorem mod_run7 (call : Cal) (p q : Int) (st : St) (h : -7 < q ∧ q < 7) : fin21 call 7 p q st = some (.int .i64 (md 7 q), st) := by
  have : q = -6 ∨ q = -5 ∨ q = -4 ∨ q = -3 ∨ q = -2 ∨ q = -1 ∨ q = 0 ∨ q = 1 ∨ q = 2 ∨ q = 3 ∨ q = 4 ∨ q = 5 ∨ q = 6 := by omega
  rcases this with h | h | h | h | h | h | h | h | h | h | h | h | h <;> subst h <;> (show fin21 _ _ _ _ _ = _; kernel_rfl)
theorem tmod_lt (p : Int) (n : Int) (hn : 0 < n) : -n < p.tmod n ∧ p.tmod n < n := by
  have h1 := Int.tmod_lt_of_pos p hn
  have h2 := Int.lt_tmod_of_pos p hn
  exact ⟨by omega, h1⟩
theorem call21 (n : Int) (h : n = 5 ∨ n = 7) (p : Int) (st : St) : callN envY 1000 2 21 [.int .i64 p, .int .i64 n] st = some (.int .i64 (md n (p.tmod n)), st) := by
  rcases h with h | h <;> subst h
  · show endF x21.res (execX (callN envY 1000 1) 1000 x21.body (argsT [.int .i64 p, .int .i64 5] 0 .nil) st) = _
    rw [mod_head 5 (.inl rfl)]
    exact mod_run5 _ p _ st (tmod_lt p 5 (by decide))
  · show endF x21.res (execX (callN envY 1000 1) 1000 x21.body (argsT [.int .i64 p, .int .i64 7] 0 .nil) st) = _
    rw [mod_head 7 (.inr rfl)]
    exact mod_run7 _ p _ st (tmod_lt p 7 (by decide))
def pMod : List AV → Option AV
  | [.int .i64 p, .int .i64 n] => match beqInt n 5 || beqInt n 7 with
    | true => some (.int .i64 (md n (p.tmod n)))
    | false => none
  | _ => none
theorem pMod_ok (base : Nat) : PrimOk Tryz.prog base 21 pMod := by
  refine ⟨⟨Tryz.f21, Tryz.func21, by kernel_rfl, by kernel_rfl⟩, fun args r h st w g vs hA hI => ?_⟩
  unfold pMod at h
  split at h <;> try cases h
  rename_i p n
  split at h <;> cases h
  rename_i hb
  have hn : n = 5 ∨ n = 7 := by
    rw [beqInt_eq, beqInt_eq] at hb
    simpa using hb
  exact (callY_ok 1000 2 base 21 _ st _ st (call21 n hn p st)).2 w g vs hA hI
/-- Answers known beforehand: of the remainder, of the modules of some texts, and of the sanity check. -/
def prG (l m : List (List AV × AV)) (f : Nat) : Option (List AV → Option AV) := match Nat.beq f 21 with
  | true => some pMod
  | false => match Nat.beq f 40 with
    | true => some (memo l)
    | false => match Nat.beq f 24 with
      | true => some (memo m)
      | false => prW f
def envG (l m : List (List AV × AV)) : Env := ⟨fxT, prG l m⟩
theorem envG_ok {lim d lim' d' : Nat} {l m : List (List AV × AV)} (hl : ∀ p ∈ l, Entry (callN envW lim d) 40 p) (hm : ∀ p ∈ m, Entry (callN envW lim' d') 24 p) (base : Nat) : EnvOk Tryz.prog tyT.get base (envG l m) := by
  refine ⟨fns_ok, fun f p h => ?_⟩
  have h : prG l m f = some p := h
  unfold prG at h
  split at h
  · rename_i hf
    rw [natBeq] at hf
    have hf := of_decide_eq_true hf
    subst hf
    injection h with h; subst h
    exact pMod_ok base
  · split at h
    · rename_i hf
      rw [natBeq] at hf
      have hf := of_decide_eq_true hf
      subst hf
      injection h with h; subst h
      exact memo_ok (fun base => callW_ok lim d base) hl ⟨Tryz.f40, Tryz.func40, by kernel_rfl, by kernel_rfl⟩ base
    · split at h
      · rename_i hf
        rw [natBeq] at hf
        have hf := of_decide_eq_true hf
        subst hf
        injection h with h; subst h
        exact memo_ok (fun base => callW_ok lim' d' base) hm ⟨Tryz.f24, Tryz.func24, by kernel_rfl, by kernel_rfl⟩ base
      · exact (envW_ok base).prim f p h
/-- A run that answers true with these answers known is a call that answers true. -/
theorem yesG_calls {lim d lim' d' lim2 d2 f : Nat} {l m : List (List AV × AV)} (hl : ∀ p ∈ l, Entry (callN envW lim d) 40 p) (hm : ∀ p ∈ m, Entry (callN envW lim' d') 24 p) {args : List AV} (h : yes (callN (envG l m) lim2 d2 f args ⟨.nil, 0⟩) = true) {w : World} {vs : List Value} (hA : RL w ⟨fun _ => none, fun _ => none, fun _ _ => False⟩ args vs) :
    Calls Tryz.prog f vs.toArray w fun e w' => e = .returned (.bool true) ∧ RowKit.Below w.heap.size w w' := by
  unfold yes at h
  split at h
  · rename_i st hr
    refine (calls_of_run mixed tab (envG_ok hl hm) lim2 d2 hr hA).mono fun e w' ⟨v, g', h1, h2, h3⟩ => ?_
    rw [rep_bool h2] at h1
    exact ⟨h1, h3⟩
  · cases h
end
end Go.Proofs.YthlkmffimhnehaaGreat
namespace Go.Proofs.YthlkmffimhnehaaGreat
open Go Go.Ev Go.RowKit
set_option maxRecDepth 100000
noncomputable section
def upA (q : Int) : Int := IntKind.i64.wrap (1 + IntKind.i64.wrap q)
def A4 (h n g p : Int) : Tr AV := argsT [.int .u8 h, .int .u8 n, .int .u8 g, .int .i64 p] 0 .nil
def T4 (h n g p a b c : Int) : Tr AV := ((((((((((((((((A4 h n g p).set 8 (.bool false)).set 19 (.int .u8 h)).set 20 (.int .u8 a)).set 21 (.int .i64 (IntKind.i64.wrap a))).set 22 (.int .i64 (upA a))).set 23 (.int .u8 n)).set 24 (.int .u8 b)).set 25 (.int .i64 (IntKind.i64.wrap b))).set 26 (.int .i64 (upA b))).set 27 (.int .u8 g)).set 28 (.int .u8 c)).set 29 (.int .i64 (IntKind.i64.wrap c))).set 30 (.int .i64 (upA c))).set 9 (.int .i64 (upA a))).set 10 (.int .i64 (upA b))).set 11 (.int .i64 (upA c))
def b41 : XC := tl x4.body
def b42 : XC := tl b41
def b43 : XC := tl b42
def b44 : XC := tl b43
def b45 : XC := tl b44
theorem e40 : x4.body = .seq (hd x4.body) b41 := by kernel_rfl
theorem e41 : b41 = .seq (hd b41) b42 := by kernel_rfl
theorem e42 : b42 = .seq (hd b42) b43 := by kernel_rfl
theorem e43 : b43 = .seq (hd b43) b44 := by kernel_rfl
theorem e44 : b44 = .seq (hd b44) b45 := by kernel_rfl
theorem f4_head (call : Cal) (h n g p : Int) (st : St) : execX call 100000 x4.body (A4 h n g p) st = execX call 100000 b42 (T4 h n g p (h.tmod 4) (n.tmod 4) (g.tmod 4)) st := by
  refine (cut1 e40 (tm' := (A4 h n g p).set 8 (.bool false)) (st' := st) (by kernel_rfl)).trans ?_
  exact cut1 e41 (tm' := T4 h n g p (h.tmod 4) (n.tmod 4) (g.tmod 4)) (by kernel_rfl)
def getTm : R → Tr AV
  | .ok _ tm _ => tm
  | .fail => .nil
/-- What the texts are made with: the digits, whatever else is known. -/
def call4 (l m : List (List AV × AV)) : Cal := callN (envG l m) 100000 200
def M2 (l m : List (List AV × AV)) (h n g p a b c : Int) : Tr AV := getTm (execX (call4 l m) 100000 (hd b42) (T4 h n g p a b c) ⟨.nil, 0⟩)
def M3 (l m : List (List AV × AV)) (h n g p a b c : Int) : Tr AV := getTm (execX (call4 l m) 100000 (hd b43) (M2 l m h n g p a b c) ⟨.nil, 0⟩)
def M4 (l m : List (List AV × AV)) (h n g p a b c k : Int) : Tr AV := (((((M3 l m h n g p a b c).set 61 (.int .i64 p)).set 62 (evX (M3 l m h n g p a b c) (.t 13))).set 63 (.int .i64 5)).set 64 (.int .i64 k)).set 14 (.int .i64 k)
theorem f4_mid_of (l m : List (List AV × AV)) (h n g p a b c : Int)
    (h2 : execX (call4 l m) 100000 (hd b42) (T4 h n g p a b c) ⟨.nil, 0⟩ = .ok .norm (M2 l m h n g p a b c) ⟨.nil, 0⟩)
    (h3 : execX (call4 l m) 100000 (hd b43) (M2 l m h n g p a b c) ⟨.nil, 0⟩ = .ok .norm (M3 l m h n g p a b c) ⟨.nil, 0⟩)
    (h4 : execX (call4 l m) 100000 (hd b44) (M3 l m h n g p a b c) ⟨.nil, 0⟩ = .ok .norm (M4 l m h n g p a b c (md 5 (p.tmod 5))) ⟨.nil, 0⟩) :
    execX (call4 l m) 100000 b42 (T4 h n g p a b c) ⟨.nil, 0⟩ = execX (call4 l m) 100000 b45 (M4 l m h n g p a b c (md 5 (p.tmod 5))) ⟨.nil, 0⟩ :=
  (cut1 e42 h2).trans ((cut1 e43 h3).trans (cut1 e44 h4))
theorem f4_mid (l m : List (List AV × AV)) (h n g p a b c : Int) (hc : c = 0 ∨ c = 1 ∨ c = 2 ∨ c = 3) : execX (call4 l m) 100000 b42 (T4 h n g p a b c) ⟨.nil, 0⟩ = execX (call4 l m) 100000 b45 (M4 l m h n g p a b c (md 5 (p.tmod 5))) ⟨.nil, 0⟩ := by
  rcases hc with hc | hc | hc | hc <;> subst hc
  · exact f4_mid_of l m h n g p a b 0 (by kernel_rfl) (by kernel_rfl) (by kernel_rfl)
  · exact f4_mid_of l m h n g p a b 1 (by kernel_rfl) (by kernel_rfl) (by kernel_rfl)
  · exact f4_mid_of l m h n g p a b 2 (by kernel_rfl) (by kernel_rfl) (by kernel_rfl)
  · exact f4_mid_of l m h n g p a b 3 (by kernel_rfl) (by kernel_rfl) (by kernel_rfl)
/-- What is left when all is reduced. -/
def Fin4 (l m : List (List AV × AV)) (a b c k : Int) : Prop := ∀ h n g p : Int, yes (endF x4.res (execX (call4 l m) 100000 b45 (M4 l m h n g p a b c k) ⟨.nil, 0⟩)) = true
theorem md5 (p : Int) : md 5 (p.tmod 5) = 0 ∨ md 5 (p.tmod 5) = 1 ∨ md 5 (p.tmod 5) = 2 ∨ md 5 (p.tmod 5) = 3 ∨ md 5 (p.tmod 5) = 4 := by
  have h := tmod_lt p 5 (by decide)
  generalize p.tmod 5 = q at h
  have : q = -4 ∨ q = -3 ∨ q = -2 ∨ q = -1 ∨ q = 0 ∨ q = 1 ∨ q = 2 ∨ q = 3 ∨ q = 4 := by omega
  rcases this with h | h | h | h | h | h | h | h | h <;> subst h <;> decide
theorem md7 (p : Int) : md 7 (p.tmod 7) = 0 ∨ md 7 (p.tmod 7) = 1 ∨ md 7 (p.tmod 7) = 2 ∨ md 7 (p.tmod 7) = 3 ∨ md 7 (p.tmod 7) = 4 ∨ md 7 (p.tmod 7) = 5 ∨ md 7 (p.tmod 7) = 6 := by
  have h := tmod_lt p 7 (by decide)
  generalize p.tmod 7 = q at h
  have : q = -6 ∨ q = -5 ∨ q = -4 ∨ q = -3 ∨ q = -2 ∨ q = -1 ∨ q = 0 ∨ q = 1 ∨ q = 2 ∨ q = 3 ∨ q = 4 ∨ q = 5 ∨ q = 6 := by omega
  rcases this with h | h | h | h | h | h | h | h | h | h | h | h | h <;> subst h <;> decide
theorem tmod4 (h : Int) (hh : 0 ≤ h) : h.tmod 4 = 0 ∨ h.tmod 4 = 1 ∨ h.tmod 4 = 2 ∨ h.tmod 4 = 3 := by
  have h1 := Int.tmod_lt_of_pos h (b := 4) (by decide)
  have h2 := Int.tmod_nonneg 4 hh
  omega
/-- The run of all numbers, out of the runs of the reduced ones. -/
theorem f4_run {h n g p : Int} (hh : 0 ≤ h) (hn : 0 ≤ n) (hg : 0 ≤ g) {m : List (List AV × AV)} {G : List (List AV × AV) → Prop}
    (all : ∀ a b c k : Int, (a = 0 ∨ a = 1 ∨ a = 2 ∨ a = 3) → (b = 0 ∨ b = 1 ∨ b = 2 ∨ b = 3) → (c = 0 ∨ c = 1 ∨ c = 2 ∨ c = 3) → (k = 0 ∨ k = 1 ∨ k = 2 ∨ k = 3 ∨ k = 4) → ∃ l, G l ∧ Fin4 l m a b c k) :
    ∃ l, G l ∧ yes (callN (envG l m) 100000 201 4 [.int .u8 h, .int .u8 n, .int .u8 g, .int .i64 p] ⟨.nil, 0⟩) = true := by
  obtain ⟨l, hl, hF⟩ := all _ _ _ _ (tmod4 h hh) (tmod4 n hn) (tmod4 g hg) (md5 p)
  refine ⟨l, hl, ?_⟩
  show yes (endF x4.res (execX (call4 l m) 100000 x4.body (A4 h n g p) ⟨.nil, 0⟩)) = true
  rw [f4_head, f4_mid l m h n g p _ _ _ (tmod4 g hg)]
  exact hF h n g p
end
end Go.Proofs.YthlkmffimhnehaaGreat
