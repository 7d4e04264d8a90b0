/- The evaluator's equations, joined: what the steps of the walks rewrite with. Conditions: none beyond the equations' own. -/
import Derived.Test.YtcpceiclnbmgiaaGreatEnv
import Derived.Test.YtcpceiclnbmgiaaGreatEvG
set_option linter.defProp false
namespace Go.Proofs.YtcpceiclnbmgiaaGreat
open Go Go.Ev
def ax5:=And.intro @Int.cast_ofNat_Int (And.intro @and_1 (And.intro @and_3 (And.intro @axK (And.intro @alU (And.intro @alV (And.intro @alW (And.intro @aej (And.intro @aek (And.intro @ael (And.intro @WR (And.intro @QO (And.intro @axP (And.intro @axO (And.intro @axL (And.intro @axM (And.intro @axN (And.intro @axQ (And.intro @axR (And.intro @alX (And.intro @alY (And.intro @alZ (And.intro @al0 (And.intro @al1 (And.intro @al2 (And.intro @al3 (And.intro @bo (And.intro @ni (And.intro @D2 (And.intro @qP (And.intro @ac3 (And.intro @ac4 (And.intro @ali (And.intro @DX (And.intro @adt (And.intro @V3 (And.intro @alH (And.intro @axr (And.intro @axs (And.intro @fQ (And.intro @IC (And.intro @ID (And.intro @FN (And.intro @andThen_ite (And.intro @Qs (And.intro @Qt (And.intro @Qu (And.intro @Lz (And.intro @QD (And.intro @Wo (And.intro @Wm (And.intro @Wn (And.intro @Wl (And.intro @Wj (And.intro @Wk (And.intro @adq (And.intro @We (And.intro @adu (And.intro @adv (@alw)))))))))))))))))))))))))))))))))))))))))))))))))))))))))))
def ax6:=And.intro @adw (And.intro @adx (And.intro @ady (And.intro @adz (And.intro @alx (And.intro @adA (And.intro @adB (And.intro @aly (And.intro @adC (And.intro @adD (And.intro @alz (And.intro @aw5 (And.intro @aEf (And.intro @alk (And.intro @alo (And.intro @adf (And.intro @axh (And.intro @adg (And.intro @alA (And.intro @ac6 (And.intro @axt (And.intro @aEv (And.intro @aEw (And.intro @axu (And.intro @alT (And.intro @adF (And.intro @axv (And.intro @aEx (And.intro @alS (And.intro @aec (And.intro @axw (And.intro @WL (And.intro @aEy (And.intro @adV (And.intro @axx (And.intro @axy (And.intro @LG (And.intro @axz (And.intro @axA (And.intro @WN (And.intro @alC (And.intro @aef (And.intro @alD (And.intro @WG (And.intro @aeb (And.intro @WH (And.intro @WD (And.intro @aea (And.intro @WE (And.intro @aEz (And.intro @axB (And.intro @alE (And.intro @aed (And.intro @WM (And.intro @aee (And.intro @aEA (And.intro @alR (And.intro @axI (And.intro @axJ (@Qv)))))))))))))))))))))))))))))))))))))))))))))))))))))))))))
def ax7:=And.intro @alF (And.intro @axD (And.intro @axE (And.intro @axF (And.intro @adH (And.intro @Wf (And.intro @aEC (And.intro @axk (And.intro @adk (And.intro @adl (And.intro @axG (And.intro @adm (And.intro @FU (And.intro @axl (And.intro @NU (And.intro @D1 (And.intro @BD (And.intro @uX (And.intro @aeh (And.intro @IV (And.intro @LK (And.intro @ad8 (And.intro @WC (And.intro @ad9 (And.intro @axC (And.intro @aEB (And.intro @aED (And.intro @axH (And.intro @QF (And.intro @alG (And.intro @adJ (And.intro @adL (And.intro @adM (And.intro @adN (And.intro @adO (And.intro @adP (And.intro @Wg (And.intro @Wh (And.intro @Wi (And.intro @aEd (And.intro @aEe (And.intro @V5 (And.intro @V6 (And.intro @wR (And.intro @bK (And.intro @V7 (And.intro @get_nil (And.intro @wW (And.intro @F5 (And.intro @al7 (And.intro @Xd (And.intro @QX (And.intro @Xe (And.intro @Xf (And.intro @Xg (And.intro @alO (And.intro @alP (And.intro @alQ (And.intro @LH (@adX)))))))))))))))))))))))))))))))))))))))))))))))))))))))))))
def ax8:=And.intro @IJ (And.intro @adY (And.intro @LI (And.intro @adZ (And.intro @LJ (And.intro @IK (And.intro @Wq (And.intro @ad0 (And.intro @ad1 (And.intro @uW (And.intro @FY (And.intro @IL (And.intro @Wr (And.intro @FZ (And.intro @Ws (And.intro @IM (And.intro @Wt (And.intro @IN (And.intro @od (And.intro @zI (And.intro @l7 (And.intro @FR (And.intro @po (And.intro @als (And.intro @aeg (And.intro @zH (And.intro @aiX (And.intro @QG (And.intro @ad2 (And.intro @ad3 (And.intro @ad4 (And.intro @IP (And.intro @Wu (And.intro @QH (And.intro @QI (And.intro @Wv (And.intro @F0 (And.intro @Ww (And.intro @Wx (And.intro @IQ (And.intro @QJ (And.intro @ad5 (And.intro @ad6 (And.intro @ad7 (And.intro @IS (And.intro @Wy (And.intro @QK (And.intro @QL (And.intro @Wz (And.intro @F1 (And.intro @WA (And.intro @WB (And.intro @IU (And.intro @alN (And.intro @alM (And.intro @adW (And.intro @WI (And.intro @WJ (And.intro @WK (@F2)))))))))))))))))))))))))))))))))))))))))))))))))))))))))))
def ax9:=And.intro @QM (And.intro @LL (And.intro @List.all_nil.{0} (And.intro @Nat.lt_irrefl (And.intro @decide_true (And.intro @adQ (And.intro @adR (And.intro @adS (And.intro @adT (And.intro @adU (And.intro @Wp (And.intro @alJ (And.intro @alK (And.intro @Option.bind_some.{0,0} (And.intro @Option.bind_none.{0,0} (And.intro @Option.map_some.{0,0} (And.intro @Option.map_none.{0,0} (And.intro @Option.getD_some.{0} (And.intro @List.map_cons.{0,0} (And.intro @List.map_nil.{0,0} (And.intro @List.all_cons.{0} (And.intro @List.any_nil.{0} (And.intro @List.length_cons.{0} (And.intro @List.length_nil.{0} (And.intro @List.drop_zero.{0} (And.intro @List.append_nil.{0} (And.intro @List.nil_append.{0} (And.intro @List.cons_append.{0} (And.intro @List.getElem?_cons_zero.{0} (And.intro @List.getElem?_cons_succ.{0} (And.intro @List.drop_succ_cons.{0} (And.intro @List.take_succ_cons.{0} (And.intro @List.take_zero.{0} (And.intro @List.zip_cons_cons.{0,0} (And.intro @List.zip_nil_left.{0,0} (And.intro @Bool.and_true (And.intro @Bool.true_and (And.intro @Bool.and_false (And.intro @Bool.false_and (And.intro @Bool.and_self (And.intro @Bool.not_true (And.intro @Bool.not_false (And.intro @Bool.not_eq_true' (And.intro @Bool.false_eq_true (And.intro @if_true.{1} (And.intro @if_false.{1} (And.intro @ite_self.{1} (And.intro @ne_eq.{1} (And.intro @not_false_eq_true (And.intro @not_true_eq_false (And.intro @and_self (And.intro @and_true (And.intro @true_and (And.intro @and_false (And.intro @false_and (And.intro @Nat.zero_add (And.intro @Nat.add_zero (And.intro @Nat.mul_one (And.intro @Nat.one_mul (@Nat.zero_mul)))))))))))))))))))))))))))))))))))))))))))))))))))))))))))
def aya:=And.intro @Nat.mul_zero (And.intro @decide_false (And.intro @decide_eq_true_eq (And.intro @decide_eq_false_iff_not (And.intro @Nat.le_refl (And.intro @Nat.zero_le (And.intro @Int.toNat_natCast (@Int.natCast_nonneg)))))))
def aEN:=And.intro @NX (And.intro @NY (And.intro @NZ (And.intro @N5 (And.intro @N6 (And.intro @N8 (And.intro @IF (And.intro @IG (@II))))))))
def aEO:=And.intro @XL (And.intro @XM (And.intro @XN (And.intro @XO (And.intro @XP (And.intro @XQ (And.intro @Q8 (And.intro @Q9 (@Ra))))))))
def bp:=And.intro @QV (And.intro @axq (And.intro @al5 (And.intro @aen (And.intro @QP (And.intro @WV (And.intro @aeo (And.intro @aep (And.intro @WW (And.intro @QQ (And.intro @LO (And.intro @WX (And.intro @aeq (And.intro @WY (And.intro @aer (And.intro @WZ (And.intro @W0 (And.intro @W1 (And.intro @W2 (And.intro @QR (And.intro @QS (And.intro @QT (And.intro @aes (And.intro @W3 (And.intro @W4 (And.intro @aEF (And.intro @W6 (And.intro @QW (And.intro @axS (And.intro @aev (And.intro @al6 (And.intro @aEG (And.intro @W7 (And.intro @aEI (And.intro @aEJ (And.intro @ama (And.intro @aeC (And.intro @Xp (And.intro @Xn (And.intro @Xo (And.intro @aeB (And.intro @W8 (And.intro @W9 (And.intro @Xa (And.intro @Xb (And.intro @Xc (And.intro @aet (And.intro @aeu (And.intro @al4 (And.intro @QU (And.intro @LP (And.intro @LM (And.intro @BE (And.intro @WS (And.intro @WT (And.intro @LN (And.intro @IW (And.intro @aem (And.intro @WU (@Bool.or_false)))))))))))))))))))))))))))))))))))))))))))))))))))))))))))
def wY:=And.intro @Bool.or_true (@Bool.or_self)
def eh:=And.intro @Xj (And.intro @Xk (And.intro @Q1 (And.intro @oe (And.intro @Xl (And.intro @Xm (And.intro @Q2 (And.intro @og (And.intro @axW (And.intro @dD (And.intro @Qz (And.intro @Qy (@QA))))))))))))
def dL:=And.intro @amb (And.intro @amc (And.intro @amd (And.intro @LQ (And.intro @I0 (And.intro @aeD (And.intro @aeE (And.intro @Xq (And.intro @uY (And.intro @Xr (And.intro @Xs (And.intro @aeF (And.intro @aeG (And.intro @aeH (And.intro @I1 (And.intro @F6 (And.intro @I2 (And.intro @Xt (And.intro @Xu (And.intro @Xv (And.intro @Q3 (And.intro @Xw (And.intro @I3 (And.intro @I4 (And.intro @aeL (And.intro @ax0 (And.intro @axZ (And.intro @aeK (And.intro @ax3 (And.intro @Oh (And.intro @Xz (And.intro @Xx (@ame))))))))))))))))))))))))))))))))
def gv:=And.intro @LX (And.intro @aeN (And.intro @aeO (And.intro @aeP (And.intro @I6 (And.intro @XB (And.intro @XA (And.intro @aeM (And.intro @LV (And.intro @LW (And.intro @Q4 (And.intro @amf (And.intro @ax1 (And.intro @Q5 (@F7))))))))))))))
def yG:=And.intro @F9 (And.intro @BJ (And.intro @XE (And.intro @XD (@amh))))
abbrev mI(n:Nat)(c:ak)(fr:Fr)(lh:aB ah)(sh:List ah)(o:Out):Prop:=DC pE n (.loop c) ⟨fr,lh,sh⟩=some (o,⟨kR pE n c fr lh sh,iy pE n c fr lh sh,iF pE n c fr lh sh⟩)
def qF:=And.intro @Xh (And.intro @QY (And.intro @LA.eq_1 (And.intro @mmV.eq_1 (And.intro @mmV.eq_2 (And.intro @jV.eq_1 (And.intro @jV.eq_2 (And.intro @jV.eq_3 (And.intro @ai0.eq_1 (And.intro @Qw.eq_1 (And.intro @alu.eq_1 (And.intro @lkV.eq_1 (And.intro @lkV.eq_2 (And.intro @lkV.eq_3 (And.intro @lkV.eq_4 (And.intro @lkV.eq_5 (And.intro @muV.eq_1 (And.intro @muV.eq_2 (And.intro @Wa.eq_1 (And.intro @FV.eq_1 (And.intro @FV.eq_2 (And.intro @uU.eq_1 (And.intro @uU.eq_2 (And.intro @fv.eq_1 (And.intro @BA.eq_1 (And.intro @BA.eq_2 (And.intro @BA.eq_3 (And.intro @adI.eq_1 (And.intro @lb.eq_1 (And.intro @AX.eq_1 (And.intro @AX.eq_2 (And.intro @splice.eq_1 (And.intro @splice.eq_2 (And.intro @splice.eq_3 (And.intro @splice.eq_4 (And.intro @mW.eq_1 (And.intro @mW.eq_2 (And.intro @eY.eq_1 (And.intro @eY.eq_2 (And.intro @NW.eq_1 (And.intro @NW.eq_2 (And.intro @qQ.eq_1 (And.intro @qQ.eq_2 (And.intro @qQ.eq_3 (And.intro @qQ.eq_4 (And.intro @qQ.eq_5 (And.intro @qQ.eq_6 (And.intro @qQ.eq_7 (And.intro @qQ.eq_8 (And.intro @qQ.eq_9 (And.intro @qQ.eq_10 (And.intro @qQ.eq_11 (And.intro @qQ.eq_12 (And.intro @qQ.eq_13 (And.intro @qQ.eq_14 (And.intro @qQ.eq_15 (And.intro @qQ.eq_16 (And.intro @qQ.eq_17 (And.intro @qQ.eq_18 (And.intro @qQ.eq_19 (And.intro @qQ.eq_20 (And.intro @qQ.eq_21 (And.intro @qQ.eq_22 (And.intro @qQ.eq_23 (And.intro @qQ.eq_24 (And.intro @qQ.eq_25 (And.intro @qQ.eq_26 (@qQ.eq_27)))))))))))))))))))))))))))))))))))))))))))))))))))))))))))))))))))
def gd:=And.intro @gdI (And.intro @gdN (And.intro @gdX (@gdR)))
def qA:=And.intro @ax5 (And.intro @ax6 (And.intro @ax7 (And.intro @ax8 (And.intro @ax9 (And.intro @aya (And.intro @aEN (@qF)))))))
def qB:=And.intro @ax5 (And.intro @ax6 (And.intro @ax7 (And.intro @ax8 (And.intro @ax9 (And.intro @aya (And.intro @aEO (@qF)))))))
theorem wL{p:Prop}(h:p:=by simp only[qA,seval]):p:=h
theorem agb:wrM (jh (.loop HN))=34359737280:=nr rfl
theorem aas:wrM (jh (.loop Ar))=147571700789862736128:=nr rfl
theorem aaD:wrM (jh (.loop kV))=2535301200456458802993398030128:=nr rfl
theorem aaF:wrM (jh (.loop wh))=8388576:=nr rfl
theorem ZT:wrM (jh (.loop As))=4294965696:=nr rfl
theorem aac:wrM (jh (.loop At))=547608338432:=nr rfl
theorem Z2:wrM (jh (.loop qy))=5444517870735015415266419766318616084480:=nr rfl
theorem Z3:wrM (jh (.loop Av))=5444517870735015415413921661314255093760:=nr rfl
theorem Z5:wrM (jh (.loop Aw))=10889035741470030830827986311916677988352:=nr rfl
theorem aao:wrM (jh (.loop Ax))=134215728:=nr rfl
theorem Ce:wrM (jh (.loop Ay))=316912650057057350374175737792:=nr rfl
theorem ay5:wrM (jh (.loop wj))=8386608:=nr rfl
theorem aaO:wrM (jh (.loop Az))=18014398492712472:=nr rfl
theorem aaH:wrM (jh (.loop wk))=81129483672101771023254642753672:=nr rfl
theorem aaG:wrM (jh (.loop wo))=77371104881383677504782376:=nr rfl
theorem ayo:wrM (jh (.loop AA))=81129635996755042466530655738884:=nr rfl
theorem Yt:wrM (jh (.loop AB))=302231436889258784195076:=nr rfl
theorem Ys:wrM (jh (.loop AD))=1125891316908132:=nr rfl
theorem Ym:wrM (jh (.loop EX))=41528233663476795193031997011263492:=nr rfl
theorem Yl:wrM (jh (.loop EY))=1267611914602001733363113000964:=nr rfl
theorem Yk:wrM (jh (.loop EZ))=4835555704505927022460932:=nr rfl
theorem Yg:wrM (jh (.loop E0))=2251524935779204:=nr rfl
theorem Yj:wrM (jh (.loop E1))=2305843000623763428:=nr rfl
theorem mB:wrM (jh (.loop AE))=590259781561686689280:=nr rfl
theorem aAb:wrM (jh (.loop kZ))=1180591611921318283008:=nr rfl
theorem aAa:wrM (jh (.loop wq))=8796092760304:=nr rfl
theorem aAm:wrM (jh (.loop qz))=604426016319167168252928:=nr rfl
theorem ZG:wrM (jh (.loop E2))=150968153499238970949632:=nr rfl
theorem ZH:wrM (jh (.loop AF))=302231418874860275433472:=nr rfl
theorem ZI:wrM (jh (.loop AG))=604462909525839611396096:=nr rfl
theorem ZK:wrM (jh (.loop AH))=2417851639224860303671296:=nr rfl
theorem ZJ:wrM (jh (.loop AI))=4363686780928:=nr rfl
theorem ZE:wrM (jh (.loop E3))=33423488:=nr rfl
theorem ZL:wrM (jh (.loop tc))=274876858400:=nr rfl
theorem ZN:wrM (jh (.loop AJ))=549755781168:=nr rfl
theorem aaa:wrM (jh (.loop AK))=18852572443331161817088:=nr rfl
theorem aab:wrM (jh (.loop bD))=1208925819614629174278144:=nr rfl
theorem ZY:wrM (jh (.loop wu))=4294902144:=nr rfl
theorem ZZ:wrM (jh (.loop AL))=68719476704:=nr rfl
theorem Z0:wrM (jh (.loop oQ))=9007199254737072:=nr rfl
theorem ZW:wrM (jh (.loop AM))=8589903360:=nr rfl
theorem aag:wrM (jh (.loop bO))=1298074214633706871103827067273220:=nr rfl
theorem Kd:wrM (jh (.loop wv))=1298074214633706906569674132946948:=nr rfl
theorem aah:wrM (jh (.loop AN))=562400197705728:=nr rfl
theorem aaA:wrM (jh (.loop wx))=4503591037436128:=nr rfl
theorem aaz:wrM (jh (.loop wy))=8589932572:=nr rfl
theorem CC:wrM (jh (.loop te))=1099507433792:=nr rfl
theorem Yf:wrM (jh (.loop E5))=13803282068997790460496115888498683564037580154149972012102539825655812:=nr rfl
theorem Ye:wrM (jh (.loop E6))=210624577060012638009155291531551441430123774698742778044587445252:=nr rfl
theorem Yb:wrM (jh (.loop E7))=98079711692413612273128373330250122319033264507885453572:=nr rfl
theorem Yd:wrM (jh (.loop E8))=6277101735386680066937501969125693243111159424202737451972:=nr rfl
theorem Ya:wrM (jh (.loop E9))=680562137693447659512934949615371812884:=nr rfl
theorem Yc:wrM (jh (.loop Fa))=696898287454002745010476931682667753111612:=nr rfl
theorem ayh:wrM (jh (.loop AO))=1125899905794076:=nr rfl
theorem aym:wrM (jh (.loop Fb))=8388108:=nr rfl
theorem ayn:wrM (jh (.loop Fc))=9435509593702435651664:=nr rfl
theorem X8:wrM (jh (.loop Fe))=20748905024535658843698038065595908:=nr rfl
theorem X7:wrM (jh (.loop Ff))=2535223829204003466726225215684:=nr rfl
theorem azV:wrM (jh (.loop wz))=1099511595248:=nr rfl
theorem apv:wrM (jh (.loop ue))=2147483632:=nr rfl
theorem Ry:wrM (jh (.loop mM))=37778895834160142745672:=nr rfl
theorem Rz:wrM (jh (.loop mN))=36028762659225640:=nr rfl
theorem RA:wrM (jh (.loop mO))=34359705624:=nr rfl
theorem apn:wrM (jh (.loop yQ))=79218491107707420560146301316:=nr rfl
theorem RG:wrM (jh (.loop yR))=9671406547909834142908516:=nr rfl
theorem RF:wrM (jh (.loop yS))=9007199221186588:=nr rfl
theorem Rw:wrM (jh (.loop yU))=20769028977814281985446798228985860:=nr rfl
theorem Rv:wrM (jh (.loop yV))=158456315583795709447797474820:=nr rfl
theorem Rt:wrM (jh (.loop yW))=9444732402789337006468:=nr rfl
theorem Rs:wrM (jh (.loop yX))=562949953159284:=nr rfl
theorem Ro:wrM (jh (.loop yY))=1267573228975774065229522010628:=nr rfl
theorem Rn:wrM (jh (.loop yZ))=77370071863715549769892100:=nr rfl
theorem aph:wrM (jh (.loop zd))=5192296858534827610516097819739076:=nr rfl
theorem Rm:wrM (jh (.loop ze))=1099444518948:=nr rfl
theorem Rp:wrM (jh (.loop zg))=18014398509481020:=nr rfl
theorem apb:wrM (jh (.loop zh))=17592186011676:=nr rfl
theorem apk:wrM (jh (.loop zi))=137438920732:=nr rfl
theorem ape:wrM (jh (.loop ug))=4294966372:=nr rfl
theorem apf:wrM (jh (.loop uh))=4398046509284:=nr rfl
theorem apg:wrM (jh (.loop ui))=1208925819051679221284996:=nr rfl
theorem Rk:wrM (jh (.loop uj))=70368744173604:=nr rfl
theorem apj:wrM (jh (.loop uk))=576460752303357964:=nr rfl
theorem apl:wrM (jh (.loop zj))=1048560:=nr rfl
theorem apm:wrM (jh (.loop zk))=1048560:=nr rfl
theorem Eh:wrM (jh (.loop zl))=2417814745741110930309200:=nr rfl
theorem api:wrM (jh (.loop zp))=262140:=nr rfl
theorem apa:wrM (jh (.loop zq))=4398046248972:=nr rfl
theorem SE:wrM (jh (.loop kb))=4835700972615507485623040:=nr rfl
theorem RE:wrM (jh (.loop zr))=4194300:=nr rfl
theorem apc:wrM (jh (.loop rJ))=590295792766519607472:=nr rfl
theorem Ew:wrM (jh (.loop zt))=4951684599277795185273274368:=nr rfl
theorem R5:wrM (jh (.loop um))=633825300114114700748343476096:=nr rfl
theorem R9:wrM (jh (.loop mS))=18446726481523531776:=nr rfl
theorem apr:wrM (jh (.loop oS))=1099511496896:=nr rfl
theorem apM:wrM (jh (.loop zw))=309484419525534710019129728:=nr rfl
end Go.Proofs.YtcpceiclnbmgiaaGreat
