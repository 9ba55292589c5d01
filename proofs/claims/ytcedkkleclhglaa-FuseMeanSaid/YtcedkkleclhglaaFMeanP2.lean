/- The parts of a walk, continued. -/
import Derived.Test.YtcedkkleclhglaaFMeanP1
set_option linter.unusedSimpArgs false
set_option linter.unusedVariables false
set_option maxRecDepth 100000
namespace Go.Proofs.Ytcedkkleclhglaa.fuseMean
open Go.RowKit Ev
noncomputable def st92 : St := ⟨[(.sls 0 (.v 0) (.v 1)), .undef, (.bool (.lit false)), (.ptr 0 0), (.slc 4 4 2 none), (.ptr 5 0), (.int .i64 (.v 16)), (.int .i64 (.v 17)), (.ptr 6 0), (.ptr 7 0), (.slc 13 4 2 none), s3, (.ptr 11 0), (.ptr 14 0), (.int .i64 (.v 20)), (.int .i64 (.v 21)), (.ptr 15 0), (.ptr 16 0), (.bool (.nz (.v 26))), (.ptr 17 0), (.ptr 18 0), (.bool (.nz (.v 31))), .undef, .undef, .undef, .undef, .undef, .undef, .undef, .undef, .undef, (.sls 0 (.v 0) (.v 1)), (.ptr 0 0), (.ptr 0 0), (.slc 4 4 2 none), (.slc 4 4 2 none), (.int .i64 (.lit 2)), (.bool (.lit false)), .undef, s1172, (.slc 4 4 2 none), s1172, s1171, (.int .i64 (.v 16)), (.int .i64 (.v 17)), (.slc 4 4 2 none), (.ptr 4 0), s6, (.slc 4 4 2 none), (.ptr 4 0), s6, (.slc 4 4 2 none), (.int .i64 (.lit 2)), (.int .i64 (.lit 1)), s3, (.bool (.lit false)), (.int .i64 (.lit 0)), s3, (.slc 4 4 2 none), (.int .i64 (.lit 0)), (.ptr 4 0), s6, (.ptr 6 1), s1173, (.ptr 11 1), (.int .i64 (.v 5)), (.int .i64 e1174), (.ptr 6 2), s1175, (.ptr 11 2), (.int .i64 (.v 6)), (.int .i64 e1176), (.ptr 7 1), s1177, (.ptr 11 1), (.int .i64 (.v 5)), (.int .i64 e1178), (.ptr 7 2), s1179, (.ptr 11 2), (.int .i64 (.v 6)), (.int .i64 e1180), (.ptr 6 1), (.ptr 6 2), (.ptr 7 1), (.ptr 7 2), (.slc 10 4 1 none), s6, (.slc 12 0 1 (some 1)), (.slc 13 4 2 none), s1182, (.slc 13 4 2 none), s1182, s1181, (.int .i64 (.v 20)), (.int .i64 (.v 21)), (.int .i64 (.v 17)), (.bool (.lit false)), (.bool (.lit false)), (.int .i64 (.v 21)), (.bool (.lit false)), (.bool (.lit false)), (.bool (.lit false)), s1171, s1181, (.bool (.not b1200)), (.bool (.not b1200)), (.bool (.not b1200)), s1201, s1202, s1204, (.bool b1205), (.bool b1205), s1206, s1207, s1208, s1209, s1211, (.bool b1212), (.bool b1212), s1213, s1214, s1215, s1216, s1218, (.bool b1219), (.bool b1219), s1220, s1221, s1222, s1223, s1225, (.bool b1226), (.bool b1226), s1227, s1228, s1229, s1230, s1232, (.bool b1233), s1235, (.slc 4 4 2 none), s1235, s1234, s549, (.bool (.nz (.v 26))), s984, (.slc 4 4 2 none), s984, s983, s4, (.bool (.nz (.v 31))), (.slc 4 4 2 none), (.int .i64 (.lit 2)), (.int .i64 (.lit 0)), .undef, .undef, .undef, .undef, .undef, .undef, .undef, .undef, .undef, .undef, .undef, .undef, .undef, .undef, .undef, .undef, .undef, .undef, .undef, .undef, .undef, .undef, .undef, .undef, .undef, .undef, .undef, .undef, .undef, .undef, .undef, .undef, .undef, .undef, .undef, .undef, .undef, .undef, .undef, .undef, .undef, .undef, .undef, .undef, .undef, .undef, .undef, .undef, .undef, .undef, .undef, .undef, .undef, .undef, .undef, .undef, .undef, .undef, .undef, .undef, .undef, .undef, .undef, .undef, .undef, .undef, .undef, .undef, .undef, .undef, .undef, .undef, .undef, .undef, .undef, .undef, .undef, .undef, .undef, .undef, .undef, .undef, .undef, .undef, .undef, .undef, .undef, .undef, .undef, .undef, .undef, .undef, .undef, .undef, .undef, .undef, .undef, .undef, .undef, .undef, .undef, .undef, .undef, .undef, .undef, .undef, .undef, .undef, .undef, .undef, .undef, .undef, .undef, .undef, .undef, .undef, .undef, .undef, .undef, .undef, .undef, .undef, .undef, .undef, .undef, .undef, .undef, .undef], [o1183, o22, none, o23, o1184, o1185, o1186, o1187, o23, o23, none, o22, o22, o1188, o1189, o1236, o567, o985, o28], ⟨⟨[e1237, (e1180, (-20), 5), e1238, (e1176, (-20), 5), e1239, (e1178, (-30), 1000), e1240, (e1174, (-30), 1000), (e33, 0, 0), e36], v1252, 32⟩, [((.lt e1180 (.v 15)), false), ((.lt (.v 15) e1176), false), ((.lt e1178 (.v 14)), false), ((.lt (.v 14) e1174), false), ((.eq (.v 16) (.v 20)), true), ((.eq (.v 15) (.v 19)), true), ((.eq (.v 14) (.v 18)), true), ((.lt (.lit 0) e33), false), (b66, true), ((.lt (.lit 0) (.v 2)), true), ((.le e2 (.v 1)), true), ((.le (.v 0) (.v 1)), true)]⟩, 32, [18, 17, 18, 17, 16, 15, 16, 15, 14, 14, 10, 13, 12, 7, 7, 6, 6, 11, 11, 10, 9, 7, 7, 6, 6, 8, 8, 7, 6, 7, 6, 5, 5, 2, 4, 3, 0, 2, 1, 0, 0, 0], [n1253, n1254, n1198, n1199, n72, n73, n74]⟩
noncomputable def s1255 : SV := (.grd (.nz (.v 26)) (.ptr 15 0))
noncomputable def s1256 : SV := (.grd (.nz (.v 26)) (.int .i64 (.v 22)))
noncomputable def s1257 : SV := (.grd (.nz (.v 26)) (.ptr 19 1))
noncomputable def s1258 : SV := (.grd (.nz (.v 26)) (.int .i64 (.v 5)))
noncomputable def s1259 : SV := (.grd (.nz (.v 26)) (.ptr 19 3))
noncomputable def s1260 : SV := (.grd (.nz (.v 26)) (.int .i64 (.v 7)))
noncomputable def s1261 : SV := (.grd (.nz (.v 26)) s157)
noncomputable def b1262 : B := (.lt (.v 22) (.sub (.v 5) (.v 7)))
noncomputable def s1263 : SV := (.grd (.nz (.v 26)) (.bool b1262))
noncomputable def b1264 : B := (.and (.nz (.v 26)) (.not b1262))
noncomputable def s1265 : SV := (.grd b1264 (.ptr 16 0))
noncomputable def s1266 : SV := (.grd b1264 (.int .i64 (.v 24)))
noncomputable def s1267 : SV := (.grd b1264 (.ptr 19 1))
noncomputable def s1268 : SV := (.grd b1264 (.int .i64 (.v 5)))
noncomputable def s1269 : SV := (.grd b1264 (.ptr 19 3))
noncomputable def s1270 : SV := (.grd b1264 (.int .i64 (.v 7)))
noncomputable def b1271 : B := (.lt (.add (.v 5) (.v 7)) (.v 24))
noncomputable def s1272 : SV := (.grd b1264 (.bool b1271))
noncomputable def s1273 : SV := (.bool (.or b1262 b1271))
noncomputable def s1274 : SV := (.grd (.nz (.v 26)) s1273)
noncomputable def b1275 : B := (.not (.or b1262 b1271))
noncomputable def b1276 : B := (.and (.nz (.v 26)) b1275)
noncomputable def s1277 : SV := (.grd b1276 (.ptr 15 1))
noncomputable def s1278 : SV := (.grd b1276 (.int .i64 (.v 23)))
noncomputable def s1279 : SV := (.grd b1276 (.ptr 19 2))
noncomputable def s1280 : SV := (.grd b1276 (.int .i64 (.v 6)))
noncomputable def s1281 : SV := (.grd b1276 (.ptr 19 3))
noncomputable def s1282 : SV := (.grd b1276 (.int .i64 (.v 7)))
noncomputable def b1283 : B := (.lt (.v 23) (.sub (.v 6) (.v 7)))
noncomputable def s1284 : SV := (.grd b1276 (.bool b1283))
noncomputable def b1285 : B := (.or (.or b1262 b1271) b1283)
noncomputable def s1286 : SV := (.grd (.nz (.v 26)) (.bool b1285))
noncomputable def b1287 : B := (.and (.nz (.v 26)) (.not b1285))
noncomputable def s1288 : SV := (.grd b1287 (.ptr 16 1))
noncomputable def s1289 : SV := (.grd b1287 (.int .i64 (.v 25)))
noncomputable def s1290 : SV := (.grd b1287 (.ptr 19 2))
noncomputable def s1291 : SV := (.grd b1287 (.int .i64 (.v 6)))
noncomputable def s1292 : SV := (.grd b1287 (.ptr 19 3))
noncomputable def s1293 : SV := (.grd b1287 (.int .i64 (.v 7)))
noncomputable def b1294 : B := (.lt (.add (.v 6) (.v 7)) (.v 25))
noncomputable def s1295 : SV := (.grd b1287 (.bool b1294))
noncomputable def s1296 : SV := (.bool (.or b1285 b1294))
noncomputable def s1297 : SV := (.grd (.nz (.v 26)) s1296)
noncomputable def b1298 : B := (.and (.nz (.v 26)) (.or b1285 b1294))
noncomputable def v1299 : VT := (.node v37 (some ((-30), 1000)) v143)
noncomputable def v1300 : VT := (.node v1299 (some ((-20), 5)) v1249)
noncomputable def v1301 : VT := (.node v1247 (some (1, 5)) v1300)
noncomputable def v1302 : VT := (.node v1245 (some (0, 9223372036854775807)) v1301)
noncomputable def ct93 : Ct := adm LC LF LG 3 (.back .ret (Ct.fr ct92))
noncomputable def st93 : St := ⟨[(.sls 0 (.v 0) (.v 1)), .undef, (.bool (.lit false)), (.ptr 0 0), (.slc 4 4 2 none), (.ptr 5 0), (.int .i64 (.v 16)), (.int .i64 (.v 17)), (.ptr 6 0), (.ptr 7 0), (.slc 13 4 2 none), s3, (.ptr 11 0), (.ptr 14 0), (.int .i64 (.v 20)), (.int .i64 (.v 21)), (.ptr 15 0), (.ptr 16 0), (.bool (.nz (.v 26))), (.ptr 17 0), (.ptr 18 0), (.bool (.nz (.v 31))), .undef, (.ptr 19 0), .undef, .undef, .undef, .undef, .undef, .undef, .undef, (.sls 0 (.v 0) (.v 1)), (.ptr 0 0), (.ptr 0 0), (.slc 4 4 2 none), (.slc 4 4 2 none), (.int .i64 (.lit 2)), (.bool (.lit false)), .undef, s1172, (.slc 4 4 2 none), s1172, s1171, (.int .i64 (.v 16)), (.int .i64 (.v 17)), (.slc 4 4 2 none), (.ptr 4 0), s6, (.slc 4 4 2 none), (.ptr 4 0), s6, (.slc 4 4 2 none), (.int .i64 (.lit 2)), (.int .i64 (.lit 1)), s3, (.bool (.lit false)), (.int .i64 (.lit 0)), s3, (.slc 4 4 2 none), (.int .i64 (.lit 0)), (.ptr 4 0), s6, (.ptr 6 1), s1173, (.ptr 11 1), (.int .i64 (.v 5)), (.int .i64 e1174), (.ptr 6 2), s1175, (.ptr 11 2), (.int .i64 (.v 6)), (.int .i64 e1176), (.ptr 7 1), s1177, (.ptr 11 1), (.int .i64 (.v 5)), (.int .i64 e1178), (.ptr 7 2), s1179, (.ptr 11 2), (.int .i64 (.v 6)), (.int .i64 e1180), (.ptr 6 1), (.ptr 6 2), (.ptr 7 1), (.ptr 7 2), (.slc 10 4 1 none), s6, (.slc 12 0 1 (some 1)), (.slc 13 4 2 none), s1182, (.slc 13 4 2 none), s1182, s1181, (.int .i64 (.v 20)), (.int .i64 (.v 21)), (.int .i64 (.v 17)), (.bool (.lit false)), (.bool (.lit false)), (.int .i64 (.v 21)), (.bool (.lit false)), (.bool (.lit false)), (.bool (.lit false)), s1171, s1181, (.bool (.not b1200)), (.bool (.not b1200)), (.bool (.not b1200)), s1201, s1202, s1204, (.bool b1205), (.bool b1205), s1206, s1207, s1208, s1209, s1211, (.bool b1212), (.bool b1212), s1213, s1214, s1215, s1216, s1218, (.bool b1219), (.bool b1219), s1220, s1221, s1222, s1223, s1225, (.bool b1226), (.bool b1226), s1227, s1228, s1229, s1230, s1232, (.bool b1233), s1235, (.slc 4 4 2 none), s1235, s1234, s549, (.bool (.nz (.v 26))), s984, (.slc 4 4 2 none), s984, s983, s4, (.bool (.nz (.v 31))), (.slc 4 4 2 none), (.int .i64 (.lit 2)), (.int .i64 (.lit 0)), (.bool (.lit true)), (.ptr 4 0), s6, (.bool (.nz (.v 26))), (.bool (.nz (.v 26))), s1255, s1256, s1257, s1258, s1259, s1260, s1261, s1263, s1263, s1265, s1266, s1267, s1268, s1269, s1270, (.grd b1264 s168), s1272, s1274, s1274, s1277, s1278, s1279, s1280, s1281, s1282, (.grd b1276 s180), s1284, s1286, s1286, s1288, s1289, s1290, s1291, s1292, s1293, (.grd b1287 s192), s1295, s1297, (.bool b1298), .undef, .undef, .undef, .undef, .undef, .undef, .undef, .undef, .undef, .undef, .undef, .undef, .undef, .undef, .undef, .undef, .undef, .undef, .undef, .undef, .undef, .undef, .undef, .undef, .undef, .undef, .undef, .undef, .undef, .undef, .undef, .undef, .undef, .undef, .undef, .undef, .undef, .undef, .undef, .undef, .undef, .undef, .undef, .undef, .undef, .undef, .undef, .undef, .undef, .undef, .undef, .undef, .undef, .undef, .undef, .undef, .undef, .undef, .undef, .undef, .undef, .undef, .undef, .undef, .undef, .undef, .undef, .undef, .undef, .undef, .undef, .undef, .undef, .undef, .undef, .undef, .undef, .undef, .undef, .undef, .undef, .undef, .undef, .undef], [o1183, o22, none, o23, o1184, o1185, o1186, o1187, o23, o23, none, o22, o22, o1188, o1189, o1236, o567, o985, o28, o22], ⟨⟨[e1237, (e1180, (-20), 5), e1238, (e1176, (-20), 5), e1239, (e1178, (-30), 1000), e1240, (e1174, (-30), 1000), (e33, 0, 0), e36], v1302, 32⟩, [((.or b1285 b1294), true), ((.nz (.v 26)), true), ((.lt e1180 (.v 15)), false), ((.lt (.v 15) e1176), false), ((.lt e1178 (.v 14)), false), ((.lt (.v 14) e1174), false), ((.eq (.v 16) (.v 20)), true), ((.eq (.v 15) (.v 19)), true), ((.eq (.v 14) (.v 18)), true), ((.lt (.lit 0) e33), false), (b66, true), ((.lt (.lit 0) (.v 2)), true), ((.le e2 (.v 1)), true), ((.le (.v 0) (.v 1)), true)]⟩, 32, [19, 19, 18, 17, 18, 17, 16, 15, 16, 15, 14, 14, 10, 13, 12, 7, 7, 6, 6, 11, 11, 10, 9, 7, 7, 6, 6, 8, 8, 7, 6, 7, 6, 5, 5, 2, 4, 3, 0, 2, 1, 0, 0, 0], [n1253, n1254, n1198, n1199, n72, n73, n74]⟩
noncomputable def tr93 : T Leaf :=
(.leaf ((.bool (.lit false)), [], []))
theorem th93 : (at_ LP LC LF (evD LP LC LF LD) LG LK ct93 st93).strip = tr93 := by kernel_rfl
noncomputable def b1303 : B := (.lt (.sub (.v 5) (.v 7)) (.v 27))
noncomputable def s1304 : SV := (.grd (.not b1303) (.ptr 18 0))
noncomputable def s1305 : SV := (.grd (.not b1303) (.int .i64 (.v 29)))
noncomputable def s1306 : SV := (.grd (.not b1303) (.ptr 19 1))
noncomputable def s1307 : SV := (.grd (.not b1303) (.int .i64 (.v 5)))
noncomputable def s1308 : SV := (.grd (.not b1303) (.ptr 19 3))
noncomputable def s1309 : SV := (.grd (.not b1303) (.int .i64 (.v 7)))
noncomputable def s1310 : SV := (.grd (.not b1303) s168)
noncomputable def b1311 : B := (.lt (.v 29) (.add (.v 5) (.v 7)))
noncomputable def s1312 : SV := (.grd (.not b1303) (.bool b1311))
noncomputable def s1313 : SV := (.bool (.or b1303 b1311))
noncomputable def b1314 : B := (.not (.or b1303 b1311))
noncomputable def s1315 : SV := (.grd b1314 (.ptr 17 1))
noncomputable def s1316 : SV := (.grd b1314 (.int .i64 (.v 28)))
noncomputable def s1317 : SV := (.grd b1314 (.ptr 19 2))
noncomputable def s1318 : SV := (.grd b1314 (.int .i64 (.v 6)))
noncomputable def s1319 : SV := (.grd b1314 (.ptr 19 3))
noncomputable def s1320 : SV := (.grd b1314 (.int .i64 (.v 7)))
noncomputable def b1321 : B := (.lt (.sub (.v 6) (.v 7)) (.v 28))
noncomputable def s1322 : SV := (.grd b1314 (.bool b1321))
noncomputable def b1323 : B := (.or (.or b1303 b1311) b1321)
noncomputable def s1324 : SV := (.grd (.not b1323) (.ptr 18 1))
noncomputable def s1325 : SV := (.grd (.not b1323) (.int .i64 (.v 30)))
noncomputable def s1326 : SV := (.grd (.not b1323) (.ptr 19 2))
noncomputable def s1327 : SV := (.grd (.not b1323) (.int .i64 (.v 6)))
noncomputable def s1328 : SV := (.grd (.not b1323) (.ptr 19 3))
noncomputable def s1329 : SV := (.grd (.not b1323) (.int .i64 (.v 7)))
noncomputable def s1330 : SV := (.grd (.not b1323) s192)
noncomputable def b1331 : B := (.lt (.v 30) (.add (.v 6) (.v 7)))
noncomputable def s1332 : SV := (.grd (.not b1323) (.bool b1331))
noncomputable def s1333 : SV := (.bool (.or b1323 b1331))
noncomputable def ct94 : Ct := adm LC LF LG 3 (.back .ret (Ct.fr ct92))
noncomputable def st94 : St := ⟨[(.sls 0 (.v 0) (.v 1)), .undef, (.bool (.lit false)), (.ptr 0 0), (.slc 4 4 2 none), (.ptr 5 0), (.int .i64 (.v 16)), (.int .i64 (.v 17)), (.ptr 6 0), (.ptr 7 0), (.slc 13 4 2 none), s3, (.ptr 11 0), (.ptr 14 0), (.int .i64 (.v 20)), (.int .i64 (.v 21)), (.ptr 15 0), (.ptr 16 0), (.bool (.nz (.v 26))), (.ptr 17 0), (.ptr 18 0), (.bool (.nz (.v 31))), .undef, (.ptr 19 0), .undef, .undef, .undef, .undef, .undef, .undef, .undef, (.sls 0 (.v 0) (.v 1)), (.ptr 0 0), (.ptr 0 0), (.slc 4 4 2 none), (.slc 4 4 2 none), (.int .i64 (.lit 2)), (.bool (.lit false)), .undef, s1172, (.slc 4 4 2 none), s1172, s1171, (.int .i64 (.v 16)), (.int .i64 (.v 17)), (.slc 4 4 2 none), (.ptr 4 0), s6, (.slc 4 4 2 none), (.ptr 4 0), s6, (.slc 4 4 2 none), (.int .i64 (.lit 2)), (.int .i64 (.lit 1)), s3, (.bool (.lit false)), (.int .i64 (.lit 0)), s3, (.slc 4 4 2 none), (.int .i64 (.lit 0)), (.ptr 4 0), s6, (.ptr 6 1), s1173, (.ptr 11 1), (.int .i64 (.v 5)), (.int .i64 e1174), (.ptr 6 2), s1175, (.ptr 11 2), (.int .i64 (.v 6)), (.int .i64 e1176), (.ptr 7 1), s1177, (.ptr 11 1), (.int .i64 (.v 5)), (.int .i64 e1178), (.ptr 7 2), s1179, (.ptr 11 2), (.int .i64 (.v 6)), (.int .i64 e1180), (.ptr 6 1), (.ptr 6 2), (.ptr 7 1), (.ptr 7 2), (.slc 10 4 1 none), s6, (.slc 12 0 1 (some 1)), (.slc 13 4 2 none), s1182, (.slc 13 4 2 none), s1182, s1181, (.int .i64 (.v 20)), (.int .i64 (.v 21)), (.int .i64 (.v 17)), (.bool (.lit false)), (.bool (.lit false)), (.int .i64 (.v 21)), (.bool (.lit false)), (.bool (.lit false)), (.bool (.lit false)), s1171, s1181, (.bool (.not b1200)), (.bool (.not b1200)), (.bool (.not b1200)), s1201, s1202, s1204, (.bool b1205), (.bool b1205), s1206, s1207, s1208, s1209, s1211, (.bool b1212), (.bool b1212), s1213, s1214, s1215, s1216, s1218, (.bool b1219), (.bool b1219), s1220, s1221, s1222, s1223, s1225, (.bool b1226), (.bool b1226), s1227, s1228, s1229, s1230, s1232, (.bool b1233), s1235, (.slc 4 4 2 none), s1235, s1234, s549, (.bool (.nz (.v 26))), s984, (.slc 4 4 2 none), s984, s983, s4, (.bool (.nz (.v 31))), (.slc 4 4 2 none), (.int .i64 (.lit 2)), (.int .i64 (.lit 0)), (.bool (.lit true)), (.ptr 4 0), s6, (.bool (.nz (.v 26))), (.bool (.nz (.v 26))), s1255, s1256, s1257, s1258, s1259, s1260, s1261, s1263, s1263, s1265, s1266, s1267, s1268, s1269, s1270, (.grd b1264 s168), s1272, s1274, s1274, s1277, s1278, s1279, s1280, s1281, s1282, (.grd b1276 s180), s1284, s1286, s1286, s1288, s1289, s1290, s1291, s1292, s1293, (.grd b1287 s192), s1295, s1297, (.bool b1298), (.bool (.nz (.v 31))), (.bool (.lit false)), (.bool (.lit false)), (.ptr 17 0), (.int .i64 (.v 27)), (.ptr 19 1), (.int .i64 (.v 5)), (.ptr 19 3), (.int .i64 (.v 7)), s157, (.bool b1303), (.bool b1303), (.bool b1303), s1304, s1305, s1306, s1307, s1308, s1309, s1310, s1312, s1313, s1313, s1315, s1316, s1317, s1318, s1319, s1320, (.grd b1314 s180), s1322, (.bool b1323), (.bool b1323), s1324, s1325, s1326, s1327, s1328, s1329, s1330, s1332, s1333, .undef, .undef, .undef, .undef, .undef, .undef, .undef, .undef, .undef, .undef, .undef, .undef, .undef, .undef, .undef, .undef, .undef, .undef, .undef, .undef, .undef, .undef, .undef, .undef, .undef, .undef, .undef, .undef, .undef, .undef, .undef, .undef, .undef, .undef, .undef, .undef, .undef, .undef, .undef, .undef, .undef, .undef], [o1183, o22, none, o23, o1184, o1185, o1186, o1187, o23, o23, none, o22, o22, o1188, o1189, o1236, o567, o985, o28, o22], ⟨⟨[e1237, (e1180, (-20), 5), e1238, (e1176, (-20), 5), e1239, (e1178, (-30), 1000), e1240, (e1174, (-30), 1000), (e33, 0, 0), e36], v1252, 32⟩, [((.or b1323 b1331), true), (b1298, false), ((.lt e1180 (.v 15)), false), ((.lt (.v 15) e1176), false), ((.lt e1178 (.v 14)), false), ((.lt (.v 14) e1174), false), ((.eq (.v 16) (.v 20)), true), ((.eq (.v 15) (.v 19)), true), ((.eq (.v 14) (.v 18)), true), ((.lt (.lit 0) e33), false), (b66, true), ((.lt (.lit 0) (.v 2)), true), ((.le e2 (.v 1)), true), ((.le (.v 0) (.v 1)), true)]⟩, 32, [19, 19, 18, 17, 18, 17, 16, 15, 16, 15, 14, 14, 10, 13, 12, 7, 7, 6, 6, 11, 11, 10, 9, 7, 7, 6, 6, 8, 8, 7, 6, 7, 6, 5, 5, 2, 4, 3, 0, 2, 1, 0, 0, 0], [n1253, n1254, n1198, n1199, n72, n73, n74]⟩
noncomputable def tr94 : T Leaf :=
(.leaf ((.bool (.lit false)), [], []))
theorem th94 : (at_ LP LC LF (evD LP LC LF LD) LG LK ct94 st94).strip = tr94 := by kernel_rfl
noncomputable def v1334 : VT := (.node v37 (some ((-20), 5)) v251)
noncomputable def v1335 : VT := (.node v999 (some (0, 600)) v1334)
noncomputable def v1336 : VT := (.node v52 (some (0, 600)) v247)
noncomputable def v1337 : VT := (.node v1002 (some ((-30), 1000)) v1336)
noncomputable def v1338 : VT := (.node v1335 (some (0, 9223372036854775807)) v1337)
noncomputable def v1339 : VT := (.node v37 (some (1, 200)) v238)
noncomputable def v1340 : VT := (.node v996 (some (0, 60)) v1339)
noncomputable def v1341 : VT := (.node v124 (some ((-30), 1000)) v242)
noncomputable def v1342 : VT := (.node v1248 (some ((-20), 5)) v1341)
noncomputable def v1343 : VT := (.node v1340 (some (1, 5)) v1342)
noncomputable def v1344 : VT := (.node v1338 (some (0, 9223372036854775807)) v1343)
noncomputable def ct95 : Ct := adm LC LF LG 2 (.back .normal (Ct.fr ct92))
noncomputable def st95 : St := ⟨[(.sls 0 (.v 0) (.v 1)), .undef, (.bool (.lit false)), (.ptr 0 0), (.slc 4 4 2 none), (.ptr 5 0), (.int .i64 (.v 16)), (.int .i64 (.v 17)), (.ptr 6 0), (.ptr 7 0), (.slc 13 4 2 none), s3, (.ptr 11 0), (.ptr 14 0), (.int .i64 (.v 20)), (.int .i64 (.v 21)), (.ptr 15 0), (.ptr 16 0), (.bool (.nz (.v 26))), (.ptr 17 0), (.ptr 18 0), (.bool (.nz (.v 31))), .undef, (.ptr 19 0), .undef, .undef, .undef, .undef, .undef, .undef, .undef, (.sls 0 (.v 0) (.v 1)), (.ptr 0 0), (.ptr 0 0), (.slc 4 4 2 none), (.slc 4 4 2 none), (.int .i64 (.lit 2)), (.bool (.lit false)), .undef, s1172, (.slc 4 4 2 none), s1172, s1171, (.int .i64 (.v 16)), (.int .i64 (.v 17)), (.slc 4 4 2 none), (.ptr 4 0), s6, (.slc 4 4 2 none), (.ptr 4 0), s6, (.slc 4 4 2 none), (.int .i64 (.lit 2)), (.int .i64 (.lit 1)), s3, (.bool (.lit false)), (.int .i64 (.lit 0)), s3, (.slc 4 4 2 none), (.int .i64 (.lit 0)), (.ptr 4 0), s6, (.ptr 6 1), s1173, (.ptr 11 1), (.int .i64 (.v 5)), (.int .i64 e1174), (.ptr 6 2), s1175, (.ptr 11 2), (.int .i64 (.v 6)), (.int .i64 e1176), (.ptr 7 1), s1177, (.ptr 11 1), (.int .i64 (.v 5)), (.int .i64 e1178), (.ptr 7 2), s1179, (.ptr 11 2), (.int .i64 (.v 6)), (.int .i64 e1180), (.ptr 6 1), (.ptr 6 2), (.ptr 7 1), (.ptr 7 2), (.slc 10 4 1 none), s6, (.slc 12 0 1 (some 1)), (.slc 13 4 2 none), s1182, (.slc 13 4 2 none), s1182, s1181, (.int .i64 (.v 20)), (.int .i64 (.v 21)), (.int .i64 (.v 17)), (.bool (.lit false)), (.bool (.lit false)), (.int .i64 (.v 21)), (.bool (.lit false)), (.bool (.lit false)), (.bool (.lit false)), s1171, s1181, (.bool (.not b1200)), (.bool (.not b1200)), (.bool (.not b1200)), s1201, s1202, s1204, (.bool b1205), (.bool b1205), s1206, s1207, s1208, s1209, s1211, (.bool b1212), (.bool b1212), s1213, s1214, s1215, s1216, s1218, (.bool b1219), (.bool b1219), s1220, s1221, s1222, s1223, s1225, (.bool b1226), (.bool b1226), s1227, s1228, s1229, s1230, s1232, (.bool b1233), s1235, (.slc 4 4 2 none), s1235, s1234, s549, (.bool (.nz (.v 26))), s984, (.slc 4 4 2 none), s984, s983, s4, (.bool (.nz (.v 31))), (.slc 4 4 2 none), (.int .i64 (.lit 2)), (.int .i64 (.lit 1)), (.bool (.lit true)), (.ptr 4 0), s6, (.bool (.nz (.v 26))), (.bool (.nz (.v 26))), s1255, s1256, s1257, s1258, s1259, s1260, s1261, s1263, s1263, s1265, s1266, s1267, s1268, s1269, s1270, (.grd b1264 s168), s1272, s1274, s1274, s1277, s1278, s1279, s1280, s1281, s1282, (.grd b1276 s180), s1284, s1286, s1286, s1288, s1289, s1290, s1291, s1292, s1293, (.grd b1287 s192), s1295, s1297, (.bool b1298), (.bool (.nz (.v 31))), (.bool (.lit false)), (.bool (.lit false)), (.ptr 17 0), (.int .i64 (.v 27)), (.ptr 19 1), (.int .i64 (.v 5)), (.ptr 19 3), (.int .i64 (.v 7)), s157, (.bool b1303), (.bool b1303), (.bool b1303), s1304, s1305, s1306, s1307, s1308, s1309, s1310, s1312, s1313, s1313, s1315, s1316, s1317, s1318, s1319, s1320, (.grd b1314 s180), s1322, (.bool b1323), (.bool b1323), s1324, s1325, s1326, s1327, s1328, s1329, s1330, s1332, s1333, (.int .i64 (.lit 1)), .undef, .undef, .undef, .undef, .undef, .undef, .undef, .undef, .undef, .undef, .undef, .undef, .undef, .undef, .undef, .undef, .undef, .undef, .undef, .undef, .undef, .undef, .undef, .undef, .undef, .undef, .undef, .undef, .undef, .undef, .undef, .undef, .undef, .undef, .undef, .undef, .undef, .undef, .undef, .undef, .undef], [o1183, o22, none, o23, o1184, o1185, o1186, o1187, o23, o23, none, o22, o22, o1188, o1189, o1236, o567, o985, o28, o22], ⟨⟨[e234, e235, e236, e237, e1237, (e1180, (-20), 5), e1238, (e1176, (-20), 5), e1239, (e1178, (-30), 1000), e1240, (e1174, (-30), 1000), (e33, 0, 0), e36], v1344, 32⟩, [(b1331, false), (b1321, false), (b1311, false), (b1303, false), (b1298, false), ((.lt e1180 (.v 15)), false), ((.lt (.v 15) e1176), false), ((.lt e1178 (.v 14)), false), ((.lt (.v 14) e1174), false), ((.eq (.v 16) (.v 20)), true), ((.eq (.v 15) (.v 19)), true), ((.eq (.v 14) (.v 18)), true), ((.lt (.lit 0) e33), false), (b66, true), ((.lt (.lit 0) (.v 2)), true), ((.le e2 (.v 1)), true), ((.le (.v 0) (.v 1)), true)]⟩, 32, [19, 19, 18, 17, 18, 17, 16, 15, 16, 15, 14, 14, 10, 13, 12, 7, 7, 6, 6, 11, 11, 10, 9, 7, 7, 6, 6, 8, 8, 7, 6, 7, 6, 5, 5, 2, 4, 3, 0, 2, 1, 0, 0, 0], [n1253, n1254, n1198, n1199, n72, n73, n74]⟩
noncomputable def tr95 : T Leaf :=
(.ite (.and (.nz (.v 26)) (.or (.or (.or (.lt (.v 22) (.sub (.v 10) (.v 12))) (.lt (.add (.v 10) (.v 12)) (.v 24))) (.lt (.v 23) (.sub (.v 11) (.v 12)))) (.lt (.add (.v 11) (.v 12)) (.v 25))))
 (.leaf ((.bool (.lit false)), [], []))
 (.ite (.or (.or (.or (.lt (.sub (.v 10) (.v 12)) (.v 27)) (.lt (.v 29) (.add (.v 10) (.v 12)))) (.lt (.sub (.v 11) (.v 12)) (.v 28))) (.lt (.v 30) (.add (.v 11) (.v 12))))
  (.leaf ((.bool (.lit false)), [], []))
  (.call 22 [(.v 9), (.v 10), (.v 11), (.lit 7), (.v 4), (.v 5), (.v 6), (.lit 7)] 4
  (.call 16 [(.add (.add (.lit 0) (.v 10)) (.v 5)), (.lit 2)] 2
  (.ite (.eq (.v 32) (.v 36))
   (.call 10 [] 1
   (.leaf ((.bool (.lit true)), [], []))
   )
   (.leaf ((.bool (.lit false)), [], []))
  )
  )
  )
 )
)
theorem th95 : (at_ LP LC LF (evD LP LC LF LD) LG LK ct95 st95).strip = tr95 := by kernel_rfl
theorem pc92 (K : X → St → T Leaf) : (ev LP LC LF (evD LP LC LF LD) LG (Ct.code ct92) (Ct.un ct92) st92 K).strip =
(.ite (.and (.nz (.v 26)) (.or (.or (.or (.lt (.v 22) (.sub (.v 5) (.v 7))) (.lt (.add (.v 5) (.v 7)) (.v 24))) (.lt (.v 23) (.sub (.v 6) (.v 7)))) (.lt (.add (.v 6) (.v 7)) (.v 25))))
(K .ret st93).strip
(.ite (.or (.or (.or (.lt (.sub (.v 5) (.v 7)) (.v 27)) (.lt (.v 29) (.add (.v 5) (.v 7)))) (.lt (.sub (.v 6) (.v 7)) (.v 28))) (.lt (.v 30) (.add (.v 6) (.v 7))))
(K .ret st94).strip
(K .normal st95).strip)) := by kernel_rfl
noncomputable def tr92 : T Leaf :=
(.ite (.and (.nz (.v 26)) (.or (.or (.or (.lt (.v 22) (.sub (.v 5) (.v 7))) (.lt (.add (.v 5) (.v 7)) (.v 24))) (.lt (.v 23) (.sub (.v 6) (.v 7)))) (.lt (.add (.v 6) (.v 7)) (.v 25))))
tr93
(.ite (.or (.or (.or (.lt (.sub (.v 5) (.v 7)) (.v 27)) (.lt (.v 29) (.add (.v 5) (.v 7)))) (.lt (.sub (.v 6) (.v 7)) (.v 28))) (.lt (.v 30) (.add (.v 6) (.v 7))))
tr94
tr95))
theorem th92 : (at_ LP LC LF (evD LP LC LF LD) LG LK ct92 st92).strip = tr92 := (at_piece (by kernel_rfl) pc92).trans (congr (congrArg (T.ite _) (at_back (n := 3) (m := 0) (ct := ct93) (by kernel_rfl) th93)) (congr (congrArg (T.ite _) (at_back (n := 3) (m := 0) (ct := ct94) (by kernel_rfl) th94)) (at_back (n := 2) (m := 0) (ct := ct95) (by kernel_rfl) th95)))
theorem th91 : (at_ LP LC LF (evD LP LC LF LD) LG LK ct91 st91).strip = tr92 := at_adm (n := 2) (m := 0) (ct := ct92) (by kernel_rfl) th92
noncomputable abbrev tr91 : T Leaf := tr92
theorem th90 : (at_ LP LC LF (evD LP LC LF LD) LG LK ct90 st90).strip = tr91 := at_adm (n := 1) (m := 0) (ct := ct91) (by kernel_rfl) th91
noncomputable abbrev tr90 : T Leaf := tr91
theorem pc89 (K : X → St → T Leaf) : (ev LP LC LF (evD LP LC LF LD) LG (Ct.code ct89) (Ct.un ct89) st88 K).strip =
(K .normal st90).strip := by kernel_rfl
noncomputable def tr89 : T Leaf :=
tr90
theorem th89 : (at_ LP LC LF (evD LP LC LF LD) LG LK ct89 st88).strip = tr89 := (at_piece (by kernel_rfl) pc89).trans (at_back (n := 1) (m := 0) (ct := ct90) (by kernel_rfl) th90)
theorem th88 : (at_ LP LC LF (evD LP LC LF LD) LG LK ct88 st88).strip = tr89 := at_adm (n := 0) (m := 1) (ct := ct89) rfl th89
noncomputable abbrev tr88 : T Leaf := tr89
theorem th87 : (at_ LP LC LF (evD LP LC LF LD) LG LK ct87 st87).strip = tr88 := at_adm (n := 1) (m := 0) (ct := ct88) (by kernel_rfl) th88
noncomputable abbrev tr87 : T Leaf := tr88
theorem pc85 (K : X → St → T Leaf) : (ev LP LC LF (evD LP LC LF LD) LG (Ct.code ct85) (Ct.un ct85) st84 K).strip =
(.ite (.or (.or (.or (.or (.or (.not (.and (.eq (.v 14) (.v 18)) (.eq (.v 15) (.v 19)))) (.not (.eq (.v 16) (.v 20)))) (.lt (.v 14) (.mn (.mn (.v 5) (.v 10)) (.v 5)))) (.lt (.mx (.mx (.v 5) (.v 10)) (.v 5)) (.v 14))) (.lt (.v 15) (.mn (.mn (.v 6) (.v 11)) (.v 6)))) (.lt (.mx (.mx (.v 6) (.v 11)) (.v 6)) (.v 15)))
(K .ret st86).strip
(.call 32 [(.v 4), (.v 5), (.v 6), (.v 7), (.v 9), (.v 10), (.v 11), (.v 12)] 5
(.call 42 [(.v 4), (.v 5), (.v 6), (.v 7), (.v 9), (.v 10), (.v 11), (.v 12)] 5
(K .normal st87).strip))) := by kernel_rfl
noncomputable def tr85 : T Leaf :=
(.ite (.or (.or (.or (.or (.or (.not (.and (.eq (.v 14) (.v 18)) (.eq (.v 15) (.v 19)))) (.not (.eq (.v 16) (.v 20)))) (.lt (.v 14) (.mn (.mn (.v 5) (.v 10)) (.v 5)))) (.lt (.mx (.mx (.v 5) (.v 10)) (.v 5)) (.v 14))) (.lt (.v 15) (.mn (.mn (.v 6) (.v 11)) (.v 6)))) (.lt (.mx (.mx (.v 6) (.v 11)) (.v 6)) (.v 15)))
tr86
(.call 32 [(.v 4), (.v 5), (.v 6), (.v 7), (.v 9), (.v 10), (.v 11), (.v 12)] 5
(.call 42 [(.v 4), (.v 5), (.v 6), (.v 7), (.v 9), (.v 10), (.v 11), (.v 12)] 5
tr87)))
theorem th85 : (at_ LP LC LF (evD LP LC LF LD) LG LK ct85 st84).strip = tr85 := (at_piece (by kernel_rfl) pc85).trans (congr (congrArg (T.ite _) (at_back (n := 1) (m := 0) (ct := ct86) (by kernel_rfl) th86)) (congrArg (T.call _ _ _) (congrArg (T.call _ _ _) (at_back (n := 1) (m := 0) (ct := ct87) (by kernel_rfl) th87))))
theorem th84 : (at_ LP LC LF (evD LP LC LF LD) LG LK ct84 st84).strip = tr85 := at_adm (n := 0) (m := 3) (ct := ct85) rfl th85
noncomputable abbrev tr84 : T Leaf := tr85
noncomputable def s1345 : SV := (.agg [(.int .i64 (.v 9)), (.int .i64 (.v 10))])
noncomputable def s1346 : SV := (.tup [s1345, (.int .i64 (.v 11)), (.int .i64 (.v 12))])
noncomputable def s1347 : SV := (.int .i64 (.mn (.v 5) (.v 5)))
noncomputable def s1348 : SV := (.int .i64 (.mn (.v 6) (.v 6)))
noncomputable def s1349 : SV := (.int .i64 (.mx (.v 5) (.v 5)))
noncomputable def s1350 : SV := (.int .i64 (.mx (.v 6) (.v 6)))
noncomputable def o1351 : Option (TypeId × List SV) := (some (51, [(.sls 0 e2 (.v 1)), (.int .i64 (.v 8))]))
noncomputable def o1352 : Option (TypeId × List SV) := (some (35, [(.int .i64 (.v 9)), (.int .i64 (.v 10))]))
noncomputable def o1353 : Option (TypeId × List SV) := (some (39, [(.int .i64 (.v 4)), s1347, s1348, (.int .i64 (.v 7))]))
noncomputable def o1354 : Option (TypeId × List SV) := (some (39, [(.int .i64 (.v 4)), s1349, s1350, (.int .i64 (.v 7))]))
noncomputable def e1355 : E × Int × Int := ((.sub (.v 2) (.lit 1)), 0, 0)
noncomputable def v1356 : VT := (.node v42 (some (0, 600)) v37)
noncomputable def v1357 : VT := (.node v1356 (some (0, 9223372036854775807)) v38)
noncomputable def v1358 : VT := (.node v39 (some (0, 60)) v52)
noncomputable def v1359 : VT := (.node v1358 (some (1, 5)) v939)
noncomputable def v1360 : VT := (.node v1357 (some (0, 9223372036854775807)) v1359)
noncomputable def n1361 : Nat × List E × Nat × Nat := (21, [(.v 4), (.v 5), (.v 6), (.v 7)], 9, 4)
noncomputable def ct96 : Ct := adm LC LF LG 1 (.back .normal (Ct.fr ct1))
noncomputable def st96 : St := ⟨[(.sls 0 (.v 0) (.v 1)), .undef, (.bool (.lit false)), (.ptr 0 0), (.slc 2 4 1 none), (.ptr 3 0), (.int .i64 (.v 11)), (.int .i64 (.v 12)), (.ptr 4 0), (.ptr 5 0), (.slc 8 4 1 none), s3, (.ptr 6 0), (.ptr 9 0), (.int .i64 (.v 11)), (.int .i64 (.v 12)), .undef, .undef, .undef, .undef, .undef, .undef, .undef, .undef, .undef, .undef, .undef, .undef, .undef, .undef, .undef, (.sls 0 (.v 0) (.v 1)), (.ptr 0 0), (.ptr 0 0), (.slc 2 4 1 none), (.slc 2 4 1 none), (.int .i64 (.lit 1)), (.bool (.lit false)), .undef, s1346, (.slc 2 4 1 none), s1346, s1345, (.int .i64 (.v 11)), (.int .i64 (.v 12)), (.slc 2 4 1 none), (.ptr 2 0), s6, (.slc 2 4 1 none), (.ptr 2 0), s6, (.slc 2 4 1 none), (.int .i64 (.lit 1)), (.int .i64 (.lit 0)), s3, (.bool (.lit false)), (.int .i64 (.lit 0)), s3, (.slc 2 4 1 none), (.int .i64 (.lit 0)), (.ptr 2 0), s6, (.ptr 4 1), (.int .i64 (.v 5)), (.ptr 6 1), (.int .i64 (.v 5)), s1347, (.ptr 4 2), (.int .i64 (.v 6)), (.ptr 6 2), (.int .i64 (.v 6)), s1348, (.ptr 5 1), (.int .i64 (.v 5)), (.ptr 6 1), (.int .i64 (.v 5)), s1349, (.ptr 5 2), (.int .i64 (.v 6)), (.ptr 6 2), (.int .i64 (.v 6)), s1350, (.ptr 4 1), (.ptr 4 2), (.ptr 5 1), (.ptr 5 2), .nils, s6, (.slc 7 0 1 (some 1)), (.slc 8 4 1 none), s1346, (.slc 8 4 1 none), s1346, s1345, (.int .i64 (.v 11)), (.int .i64 (.v 12)), .undef, .undef, .undef, .undef, .undef, .undef, .undef, .undef, .undef, .undef, .undef, .undef, .undef, .undef, .undef, .undef, .undef, .undef, .undef, .undef, .undef, .undef, .undef, .undef, .undef, .undef, .undef, .undef, .undef, .undef, .undef, .undef, .undef, .undef, .undef, .undef, .undef, .undef, .undef, .undef, .undef, .undef, .undef, .undef, .undef, .undef, .undef, .undef, .undef, .undef, .undef, .undef, .undef, .undef, .undef, .undef, .undef, .undef, .undef, .undef, .undef, .undef, .undef, .undef, .undef, .undef, .undef, .undef, .undef, .undef, .undef, .undef, .undef, .undef, .undef, .undef, .undef, .undef, .undef, .undef, .undef, .undef, .undef, .undef, .undef, .undef, .undef, .undef, .undef, .undef, .undef, .undef, .undef, .undef, .undef, .undef, .undef, .undef, .undef, .undef, .undef, .undef, .undef, .undef, .undef, .undef, .undef, .undef, .undef, .undef, .undef, .undef, .undef, .undef, .undef, .undef, .undef, .undef, .undef, .undef, .undef, .undef, .undef, .undef, .undef, .undef, .undef, .undef, .undef, .undef, .undef, .undef, .undef, .undef, .undef, .undef, .undef, .undef, .undef, .undef, .undef, .undef, .undef, .undef, .undef, .undef, .undef, .undef, .undef, .undef, .undef, .undef, .undef, .undef, .undef, .undef, .undef, .undef, .undef, .undef, .undef, .undef, .undef, .undef, .undef, .undef, .undef, .undef, .undef, .undef, .undef, .undef, .undef, .undef, .undef, .undef, .undef, .undef, .undef, .undef, .undef, .undef, .undef, .undef, .undef, .undef, .undef], [o1351, o22, o22, o1352, o1353, o1354, o22, o22, o22, o1352], ⟨⟨[e1355], v1360, 13⟩, [(b66, false), ((.lt (.lit 0) (.v 2)), true), ((.le e2 (.v 1)), true), ((.le (.v 0) (.v 1)), true)]⟩, 13, [9, 9, 8, 7, 5, 5, 4, 4, 6, 6, 5, 4, 5, 4, 3, 3, 2, 1, 0, 0, 0], [n1361, n73, n74]⟩
noncomputable def tr96 : T Leaf :=
(.ite (.or (.or (.or (.lt (.v 9) (.mn (.v 5) (.v 5))) (.lt (.mx (.v 5) (.v 5)) (.v 9))) (.lt (.v 10) (.mn (.v 6) (.v 6)))) (.lt (.mx (.v 6) (.v 6)) (.v 10)))
 (.leaf ((.bool (.lit false)), [], []))
 (.call 31 [(.v 4), (.v 5), (.v 6), (.v 7)] 5
 (.call 41 [(.v 4), (.v 5), (.v 6), (.v 7)] 5
 (.ite (.and (.nz (.v 17)) (.or (.or (.or (.lt (.v 13) (.sub (.v 5) (.v 7))) (.lt (.add (.v 5) (.v 7)) (.v 15))) (.lt (.v 14) (.sub (.v 6) (.v 7)))) (.lt (.add (.v 6) (.v 7)) (.v 16))))
  (.leaf ((.bool (.lit false)), [], []))
  (.ite (.or (.or (.or (.lt (.sub (.v 5) (.v 7)) (.v 18)) (.lt (.v 20) (.add (.v 5) (.v 7)))) (.lt (.sub (.v 6) (.v 7)) (.v 19))) (.lt (.v 21) (.add (.v 6) (.v 7))))
   (.leaf ((.bool (.lit false)), [], []))
   (.call 21 [(.v 4), (.v 5), (.v 6), (.lit 7)] 4
   (.call 16 [(.add (.lit 0) (.v 5)), (.lit 1)] 2
   (.ite (.eq (.v 23) (.v 27))
    (.call 10 [] 1
    (.leaf ((.bool (.lit true)), [], []))
    )
    (.leaf ((.bool (.lit false)), [], []))
   )
   )
   )
  )
 )
 )
 )
)
theorem th96 : (at_ LP LC LF (evD LP LC LF LD) LG LK ct96 st96).strip = tr96 := by kernel_rfl
noncomputable def o1362 : Option (TypeId × List SV) := (some (51, [(.sls 0 e2 (.v 1)), (.int .i64 (.v 3))]))
noncomputable def v1363 : VT := (.node v39 (some (0, 9223372036854775807)) .nil)
noncomputable def v1364 : VT := (.node v143 (some (0, 0)) .nil)
noncomputable def v1365 : VT := (.node v1363 (some (0, 9223372036854775807)) v1364)
noncomputable def ct97 : Ct := adm LC LF LG 1 (.back .ret (Ct.fr ct1))
noncomputable def st97 : St := ⟨[(.sls 0 (.v 0) (.v 1)), .undef, (.bool (.nz (.v 4))), (.ptr 0 0), .nils, .undef, .undef, .undef, .undef, .undef, .undef, .undef, .undef, .undef, .undef, .undef, .undef, .undef, .undef, .undef, .undef, .undef, .undef, .undef, .undef, .undef, .undef, .undef, .undef, .undef, .undef, (.sls 0 (.v 0) (.v 1)), (.ptr 0 0), (.ptr 0 0), .nils, .nils, (.int .i64 (.lit 0)), (.bool (.lit true)), (.bool (.nz (.v 4))), .undef, .undef, .undef, .undef, .undef, .undef, .undef, .undef, .undef, .undef, .undef, .undef, .undef, .undef, .undef, .undef, .undef, .undef, .undef, .undef, .undef, .undef, .undef, .undef, .undef, .undef, .undef, .undef, .undef, .undef, .undef, .undef, .undef, .undef, .undef, .undef, .undef, .undef, .undef, .undef, .undef, .undef, .undef, .undef, .undef, .undef, .undef, .undef, .undef, .undef, .undef, .undef, .undef, .undef, .undef, .undef, .undef, .undef, .undef, .undef, .undef, .undef, .undef, .undef, .undef, .undef, .undef, .undef, .undef, .undef, .undef, .undef, .undef, .undef, .undef, .undef, .undef, .undef, .undef, .undef, .undef, .undef, .undef, .undef, .undef, .undef, .undef, .undef, .undef, .undef, .undef, .undef, .undef, .undef, .undef, .undef, .undef, .undef, .undef, .undef, .undef, .undef, .undef, .undef, .undef, .undef, .undef, .undef, .undef, .undef, .undef, .undef, .undef, .undef, .undef, .undef, .undef, .undef, .undef, .undef, .undef, .undef, .undef, .undef, .undef, .undef, .undef, .undef, .undef, .undef, .undef, .undef, .undef, .undef, .undef, .undef, .undef, .undef, .undef, .undef, .undef, .undef, .undef, .undef, .undef, .undef, .undef, .undef, .undef, .undef, .undef, .undef, .undef, .undef, .undef, .undef, .undef, .undef, .undef, .undef, .undef, .undef, .undef, .undef, .undef, .undef, .undef, .undef, .undef, .undef, .undef, .undef, .undef, .undef, .undef, .undef, .undef, .undef, .undef, .undef, .undef, .undef, .undef, .undef, .undef, .undef, .undef, .undef, .undef, .undef, .undef, .undef, .undef, .undef, .undef, .undef, .undef, .undef, .undef, .undef, .undef, .undef, .undef, .undef, .undef, .undef, .undef, .undef, .undef, .undef, .undef, .undef, .undef, .undef, .undef, .undef, .undef, .undef, .undef, .undef, .undef, .undef, .undef, .undef, .undef, .undef, .undef, .undef, .undef, .undef, .undef, .undef, .undef, .undef, .undef, .undef, .undef, .undef, .undef, .undef, .undef, .undef, .undef, .undef], [o1362], ⟨⟨[], v1365, 5⟩, [((.lt (.lit 0) (.v 2)), false), ((.le e2 (.v 1)), true), ((.le (.v 0) (.v 1)), true)]⟩, 5, [0, 0], [(10, [], 4, 1), n74]⟩
noncomputable def tr97 : T Leaf :=
(.leaf ((.bool (.lit true)), [], []))
theorem th97 : (at_ LP LC LF (evD LP LC LF LD) LG LK ct97 st97).strip = tr97 := by kernel_rfl
theorem pc1 (K : X → St → T Leaf) : (ev LP LC LF (evD LP LC LF LD) LG (Ct.code ct1) (Ct.un ct1) st0 K).strip =
(.call 900 [(.lit 6), (.mn (.v 0) (.lit 600)), (.lit 0)] 2
(.ite (.lt (.lit 0) (.v 2))
(.call 11 [(.lit 0), (.mn (.v 0) (.lit 600)), (.v 1), (.v 3)] 5
(.ite (.lt (.lit 0) (.sub (.v 2) (.lit 1)))
(.call 11 [(.lit 0), (.mn (.v 0) (.lit 600)), (.v 1), (.v 8)] 5
(.ite (.lt (.lit 0) (.sub (.sub (.v 2) (.lit 1)) (.lit 1)))
(.call 11 [(.lit 0), (.mn (.v 0) (.lit 600)), (.v 1), (.v 13)] 5
(.ite (.lt (.lit 0) (.sub (.sub (.sub (.v 2) (.lit 1)) (.lit 1)) (.lit 1)))
(.call 11 [(.lit 0), (.mn (.v 0) (.lit 600)), (.v 1), (.v 18)] 5
(.ite (.lt (.lit 0) (.sub (.sub (.sub (.sub (.v 2) (.lit 1)) (.lit 1)) (.lit 1)) (.lit 1)))
(.call 11 [(.lit 0), (.mn (.v 0) (.lit 600)), (.v 1), (.v 23)] 5
(.call 25 [(.v 4), (.v 5), (.v 6), (.v 7), (.v 9), (.v 10), (.v 11), (.v 12), (.v 14), (.v 15), (.v 16), (.v 17), (.v 19), (.v 20), (.v 21), (.v 22), (.v 24), (.v 25), (.v 26), (.v 27)] 4
(.call 25 [(.v 24), (.v 25), (.v 26), (.v 27), (.v 19), (.v 20), (.v 21), (.v 22), (.v 14), (.v 15), (.v 16), (.v 17), (.v 9), (.v 10), (.v 11), (.v 12), (.v 4), (.v 5), (.v 6), (.v 7)] 4
(K .normal st2).strip)))
(.call 24 [(.v 4), (.v 5), (.v 6), (.v 7), (.v 9), (.v 10), (.v 11), (.v 12), (.v 14), (.v 15), (.v 16), (.v 17), (.v 19), (.v 20), (.v 21), (.v 22)] 4
(.call 24 [(.v 19), (.v 20), (.v 21), (.v 22), (.v 14), (.v 15), (.v 16), (.v 17), (.v 9), (.v 10), (.v 11), (.v 12), (.v 4), (.v 5), (.v 6), (.v 7)] 4
(K .normal st44).strip))))
(.call 23 [(.v 4), (.v 5), (.v 6), (.v 7), (.v 9), (.v 10), (.v 11), (.v 12), (.v 14), (.v 15), (.v 16), (.v 17)] 4
(.call 23 [(.v 14), (.v 15), (.v 16), (.v 17), (.v 9), (.v 10), (.v 11), (.v 12), (.v 4), (.v 5), (.v 6), (.v 7)] 4
(K .normal st69).strip))))
(.call 22 [(.v 4), (.v 5), (.v 6), (.v 7), (.v 9), (.v 10), (.v 11), (.v 12)] 4
(.call 22 [(.v 9), (.v 10), (.v 11), (.v 12), (.v 4), (.v 5), (.v 6), (.v 7)] 4
(K .normal st84).strip))))
(.call 21 [(.v 4), (.v 5), (.v 6), (.v 7)] 4
(K .normal st96).strip)))
(.call 10 [] 1
(K .ret st97).strip))) := by kernel_rfl
noncomputable def tr1 : T Leaf :=
(.call 900 [(.lit 6), (.mn (.v 0) (.lit 600)), (.lit 0)] 2
(.ite (.lt (.lit 0) (.v 2))
(.call 11 [(.lit 0), (.mn (.v 0) (.lit 600)), (.v 1), (.v 3)] 5
(.ite (.lt (.lit 0) (.sub (.v 2) (.lit 1)))
(.call 11 [(.lit 0), (.mn (.v 0) (.lit 600)), (.v 1), (.v 8)] 5
(.ite (.lt (.lit 0) (.sub (.sub (.v 2) (.lit 1)) (.lit 1)))
(.call 11 [(.lit 0), (.mn (.v 0) (.lit 600)), (.v 1), (.v 13)] 5
(.ite (.lt (.lit 0) (.sub (.sub (.sub (.v 2) (.lit 1)) (.lit 1)) (.lit 1)))
(.call 11 [(.lit 0), (.mn (.v 0) (.lit 600)), (.v 1), (.v 18)] 5
(.ite (.lt (.lit 0) (.sub (.sub (.sub (.sub (.v 2) (.lit 1)) (.lit 1)) (.lit 1)) (.lit 1)))
(.call 11 [(.lit 0), (.mn (.v 0) (.lit 600)), (.v 1), (.v 23)] 5
(.call 25 [(.v 4), (.v 5), (.v 6), (.v 7), (.v 9), (.v 10), (.v 11), (.v 12), (.v 14), (.v 15), (.v 16), (.v 17), (.v 19), (.v 20), (.v 21), (.v 22), (.v 24), (.v 25), (.v 26), (.v 27)] 4
(.call 25 [(.v 24), (.v 25), (.v 26), (.v 27), (.v 19), (.v 20), (.v 21), (.v 22), (.v 14), (.v 15), (.v 16), (.v 17), (.v 9), (.v 10), (.v 11), (.v 12), (.v 4), (.v 5), (.v 6), (.v 7)] 4
tr2)))
(.call 24 [(.v 4), (.v 5), (.v 6), (.v 7), (.v 9), (.v 10), (.v 11), (.v 12), (.v 14), (.v 15), (.v 16), (.v 17), (.v 19), (.v 20), (.v 21), (.v 22)] 4
(.call 24 [(.v 19), (.v 20), (.v 21), (.v 22), (.v 14), (.v 15), (.v 16), (.v 17), (.v 9), (.v 10), (.v 11), (.v 12), (.v 4), (.v 5), (.v 6), (.v 7)] 4
tr44))))
(.call 23 [(.v 4), (.v 5), (.v 6), (.v 7), (.v 9), (.v 10), (.v 11), (.v 12), (.v 14), (.v 15), (.v 16), (.v 17)] 4
(.call 23 [(.v 14), (.v 15), (.v 16), (.v 17), (.v 9), (.v 10), (.v 11), (.v 12), (.v 4), (.v 5), (.v 6), (.v 7)] 4
tr69))))
(.call 22 [(.v 4), (.v 5), (.v 6), (.v 7), (.v 9), (.v 10), (.v 11), (.v 12)] 4
(.call 22 [(.v 9), (.v 10), (.v 11), (.v 12), (.v 4), (.v 5), (.v 6), (.v 7)] 4
tr84))))
(.call 21 [(.v 4), (.v 5), (.v 6), (.v 7)] 4
tr96)))
(.call 10 [] 1
tr97)))
theorem th1 : (at_ LP LC LF (evD LP LC LF LD) LG LK ct1 st0).strip = tr1 := (at_piece (by kernel_rfl) pc1).trans (congrArg (T.call _ _ _) (congr (congrArg (T.ite _) (congrArg (T.call _ _ _) (congr (congrArg (T.ite _) (congrArg (T.call _ _ _) (congr (congrArg (T.ite _) (congrArg (T.call _ _ _) (congr (congrArg (T.ite _) (congrArg (T.call _ _ _) (congr (congrArg (T.ite _) (congrArg (T.call _ _ _) (congrArg (T.call _ _ _) (congrArg (T.call _ _ _) (at_back (n := 1) (m := 0) (ct := ct2) (by kernel_rfl) th2))))) (congrArg (T.call _ _ _) (congrArg (T.call _ _ _) (at_back (n := 1) (m := 0) (ct := ct44) (by kernel_rfl) th44)))))) (congrArg (T.call _ _ _) (congrArg (T.call _ _ _) (at_back (n := 1) (m := 0) (ct := ct69) (by kernel_rfl) th69)))))) (congrArg (T.call _ _ _) (congrArg (T.call _ _ _) (at_back (n := 1) (m := 0) (ct := ct84) (by kernel_rfl) th84)))))) (congrArg (T.call _ _ _) (at_back (n := 1) (m := 0) (ct := ct96) (by kernel_rfl) th96))))) (congrArg (T.call _ _ _) (at_back (n := 1) (m := 0) (ct := ct97) (by kernel_rfl) th97))))
theorem th0 : (at_ LP LC LF (evD LP LC LF LD) LG LK ct0 st0).strip = tr1 := at_adm (n := 0) (m := 9) (ct := ct1) rfl th1
noncomputable abbrev tr0 : T Leaf := tr1
end Go.Proofs.Ytcedkkleclhglaa.fuseMean
