/- WALKS: what a whole program is: an act. -/
import Derived.Test.YtmjilfamjlnigaaGreatQ04
namespace Go.Proofs.YtmjilfamjlnigaaGreat.SrcW
open Go Go.RowKit Kit SrcP
set_option maxRecDepth 100000 in
set_option maxHeartbeats 0 in
theorem wholeAct_any (a:SrcP.Act) (vi ve vf vt:Value) (cells:Int) (hc:0≤cells∧cells≤4096) (locals n:Nat) (hloc:locals≤24) (_hn:n≤65536) (A:Option Addr) (c:Nat) (w:World) (ha:ActV w vi ve vf a) :
  Calls Tryz.prog 59 #[.agg (actC a vi ve vf),.agg #[.int .i64 cells,vt],.agg #[.int .i64 locals,.slice A n c]] w fun r w'=>r=.returned (.bool (actOk cells locals n a))∧Below w.heap.size w w':=by
 have HPL:∀w2,Below w.heap.size w w2→Hid (Calls Tryz.prog 97 #[.agg (actC a vi ve vf),.agg #[.int .i64 cells,vt],.int .i64 locals] w2 fun r w'=>r=.returned (.bool (placeOk cells locals a))∧Below w2.heap.size w2 w') :=
  fun w2 hb2=>Lib.hid (wholePlace_any a vi ve vf vt cells hc locals hloc w2 (ha.below hb2))
 unfold actC at HPL ⊢
 have HA:=Lib.hid ha
 obtain⟨op,dst,base,size,index,e,f,mode,to_,line,col⟩:=a
 simp only at HA HPL ⊢
 have hP:=Lib.hid (rfl:placeOk cells locals ⟨op,dst,base,size,index,e,f,mode,to_,line,col⟩=placeOk cells locals ⟨op,dst,base,size,index,e,f,mode,to_,line,col⟩)
 clear ha
 have HMAY:=fun w=>Lib.hid (may_any op mode w)
 by_cases h1:op<1
 ·have d1:¬(1≤op∧op≤10):=by omega
  have D1:=Lib.hid d1
  clear d1
  replace HMAY:=HMAY w
  go_enter Tryz.func59,Tryz.ntmps59
  go_wp2_with (first |(go_at_call 95;refine HMAY.out.mono ?_;rintro e w2 ⟨rfl,rfl⟩))
  go_ret
  refine⟨Kit.cB (?_:false=actOk cells locals n _),by repeat (first | exact Below.refl _ _ | refine Kit.Below.al ?_ _)⟩
  simp[actOk,D1.out]
 by_cases h10:10<op
 ·have d1:¬(1≤op∧op≤10):=by omega
  have D1:=Lib.hid d1
  clear d1
  replace HMAY:=HMAY w
  go_enter Tryz.func59,Tryz.ntmps59
  go_wp2_with (first |(go_at_call 95;refine HMAY.out.mono ?_;rintro e w2 ⟨rfl,rfl⟩))
  go_ret
  refine⟨Kit.cB (?_:false=actOk cells locals n _),by repeat (first | exact Below.refl _ _ | refine Kit.Below.al ?_ _)⟩
  simp[actOk,D1.out]
 have D10:=Lib.hid (show 1≤op∧op≤10 by omega)
 cases hm:mayB op mode with
 | false =>
  have HM:=Lib.hid hm
  replace HMAY:=HMAY (((w.alloc (.cells #[.int .i64 op,.int .i64 dst,.int .i64 base,.int .i64 size,vi,ve,vf,.int .i64 mode,.int .i64 to_,.int .i64 line,.int .i64 col] 58)).alloc (.cells #[.int .i64 cells,vt] 24)).alloc (.cells #[.int .i64 locals,.slice A n c] 60))
  rw[hm]at HMAY
  clear hm
  go_enter Tryz.func59,Tryz.ntmps59
  go_wp2_with (first |(go_at_call 95;refine HMAY.out.mono ?_;rintro e w2 ⟨rfl,rfl⟩))
  go_ret
  refine⟨Kit.cB (?_:false=actOk cells locals n _),by repeat (first | exact Below.refl _ _ | refine Kit.Below.al ?_ _)⟩
  simp[actOk,HM.out]
 | true =>
  have HACT:Hid (actOk cells locals n ⟨op,dst,base,size,index,e,f,mode,to_,line,col⟩ =
    ((if hasDst op then decide (0≤dst∧dst<(locals:Int))else dst == 0)
   &&(if hasPlace op then placeOk cells locals ⟨op,dst,base,size,index,e,f,mode,to_,line,col⟩else base == 0&&size == 0&&index.isEmpty)
   &&((hasE op == !e.isEmpty)&&(hasF op == !f.isEmpty)&&(!hasE op || exprOk e locals)&&(!hasF op || exprOk f locals))
   &&(if hasTo op then decide (0≤to_∧to_≤(n:Int))else to_ == 0))):=Lib.hid (by
   have:=D10.out
   simp only[actOk,hm,this,and_self,decide_true,Bool.true_and,Bool.and_assoc])
  replace HMAY:=HMAY (((w.alloc (.cells #[.int .i64 op,.int .i64 dst,.int .i64 base,.int .i64 size,vi,ve,vf,.int .i64 mode,.int .i64 to_,.int .i64 line,.int .i64 col] 58)).alloc (.cells #[.int .i64 cells,vt] 24)).alloc (.cells #[.int .i64 locals,.slice A n c] 60))
  rw[hm]at HMAY
  clear hm
  have HPA:=fun w=>Lib.hid (parts_any op D10.out.1 D10.out.2 w)
  unfold hasV at HPA
  generalize hasDst op=b0 at *
  generalize hasPlace op=b1 at *
  generalize hasE op=b2 at *
  generalize hasF op=b3 at *
  generalize hasTo op=b4 at *
  go_enter Tryz.func59,Tryz.ntmps59
  go_upto_block 0 with (first |(go_at_call 95;refine HMAY.out.mono ?_;rintro e w2 ⟨rfl,rfl⟩) |(go_at_call 96;refine(HPA _).out.mono ?_;rintro e w4 ⟨rfl,hb4⟩))
  obtain⟨w0,hw0⟩:∃x,x=((w.alloc (.cells #[.int .i64 op,.int .i64 dst,.int .i64 base,.int .i64 size,vi,ve,vf,.int .i64 mode,.int .i64 to_,.int .i64 line,.int .i64 col] 58)).alloc (.cells #[.int .i64 cells,vt] 24)).alloc (.cells #[.int .i64 locals,.slice A n c] 60):=⟨_,rfl⟩
  have hb0:Below w.heap.size w w0:=by rw[hw0];exact Kit.Below.al (Kit.bl2) _
  have hA0:Blk w0 w.heap.size 58 #[.int .i64 op,.int .i64 dst,.int .i64 base,.int .i64 size,vi,ve,vf,.int .i64 mode,.int .i64 to_,.int .i64 line,.int .i64 col]:=by rw[hw0];exact((Blk.new w _ _).alloc _).alloc _
  have hP0:Blk w0 (w.heap.size+1) 24 #[.int .i64 cells,vt]:=by rw[hw0];exact(Blk.newAt (sizeA w _) _ _).alloc _
  have hT0:Blk w0 (w.heap.size+1+1) 60 #[.int .i64 locals,.slice A n c]:=by rw[hw0];exact Blk.newAt (by rw[sizeA,sizeA]) _ _
  rw[←hw0]at hb4
  clear hw0 HMAY HPA
  have hb5:=Kit.Below.al (Kit.Below.then hb0 hb4) (.cells #[.bool b0,.bool b1,.bool b2,.bool b3,.bool b4] 199)
  have hA5:=(hA0.below' hb4).alloc (.cells #[.bool b0,.bool b1,.bool b2,.bool b3,.bool b4] 199)
  have hP5:=(hP0.below' hb4).alloc (.cells #[.bool b0,.bool b1,.bool b2,.bool b3,.bool b4] 199)
  have hT5:=(hT0.below' hb4).alloc (.cells #[.bool b0,.bool b1,.bool b2,.bool b3,.bool b4] 199)
  have hH5:=Blk.new w4 199 #[.bool b0,.bool b1,.bool b2,.bool b3,.bool b4]
  generalize w4.alloc (.cells #[.bool b0,.bool b1,.bool b2,.bool b3,.bool b4] 199)=w5 at *
  clear hb4 hb0 hA0 hP0 hT0
  have hlt1:=hA5.lt
  have hlt2:=hP5.lt
  have hlt3:=hT5.lt
  have hlt4:=hH5.lt
  generalize w4.heap.size=gh at *
  generalize hga:w.heap.size=ga at *
  generalize hgp:ga+1=gp at *
  generalize hgt:gp+1=gt at *
  have HGA:=Lib.hid hga
  clear hga hgp hgt
  have hbr:=Below.refl w5.heap.size w5
  refine wp_block ?_
  refine wp_seq_k fun K1 HK1=>?_
  go_cut [27] (fun s27 wz=>s27=.bool (!(if b0=true then decide (0≤dst∧dst<(locals:Int))else dst == 0))∧Below w5.heap.size w5 wz)
  case first =>
   have ka1:w5.cell? ⟨ga,1,none⟩=some (.int .i64 dst):=(hA5.below' hbr).cell 1
   have kt0:w5.cell? ⟨gt,0,none⟩=some (.int .i64 locals):=(hT5.below' hbr).cell 0
   have kh0:w5.cell? ⟨gh,0,none⟩=some (.bool b0):=(hH5.below' hbr).cell 0
   cases b0
   ·by_cases hd:dst=0
    ·subst hd
     go_wp2_with fail
     go_meet
     exact⟨by first | rfl |(simp;done) |(simp;omega),hbr⟩
    ·have q1:(dst != 0)=true:=by simp[hd]
     have q2:(dst == 0)=false:=by simp[hd]
     go_wp2_with fail
     go_meet
     exact⟨by first | rfl |(simp;done) |(simp;omega),hbr⟩
   ·by_cases hd:dst<0
    ·skip
     go_wp2_with fail
     go_meet
     exact⟨by first | rfl |(simp;done) |(simp;omega),hbr⟩
    ·by_cases hd2:(locals:Int)≤dst
     ·skip
      go_wp2_with fail
      go_meet
      exact⟨by first | rfl |(simp;done) |(simp;omega),hbr⟩
     ·skip
      go_wp2_with fail
      go_meet
      exact⟨by first | rfl |(simp;done) |(simp;omega),hbr⟩
  case rest =>
   obtain⟨rfl,hbz⟩:=hcut
   generalize (if b0=true then decide (0≤dst∧dst<(locals:Int))else dst == 0)=x0 at *
   have hbw:=hb5.trans (hbz.mono (Nat.le_of_lt hlt1))
   cases x0 with
   | false =>
    go_wp2_with fail
    go_ret
    exact⟨Kit.cB (show false=_ by rw[HACT.out];simp),by rw[HGA.out];exact hbw⟩
   | true =>
    refine HK1 _ _ ?_
    go_step
    refine wp_seq_k fun K2 HK2=>?_
    go_cut [50] (fun s50 wz=>s50=.bool (!(if b1=true then placeOk cells locals ⟨op,dst,base,size,index,e,f,mode,to_,line,col⟩else base == 0&&size == 0&&index.isEmpty))∧Below w5.heap.size w5 wz)
    case first =>
     obtain⟨ka0,ka1,ka2,ka3,ka4,ka5,ka6,ka7,ka8,ka9,ka10⟩:=Kit.cells11 (hA5.below' hbz)
     have kp0:wc.cell? ⟨gp,0,none⟩=some (.int .i64 cells):=(hP5.below' hbz).cell 0
     have kp1:wc.cell? ⟨gp,1,none⟩=some vt:=(hP5.below' hbz).cell 1
     have kt0:wc.cell? ⟨gt,0,none⟩=some (.int .i64 locals):=(hT5.below' hbz).cell 0
     have kh1:wc.cell? ⟨gh,1,none⟩=some (.bool b1):=(hH5.below' hbz).cell 1
     cases b1
     ·by_cases hd:base=0
      ·subst hd
       by_cases hs:size=0
       ·subst hs
        obtain⟨I,ci,hvi,_⟩:=HA.out.index
        simp only at hvi
        subst hvi
        cases index with
        | nil =>
         go_wp2_with fail
         go_meet
         exact⟨by first | rfl |(simp;done) |(simp;omega),hbz⟩
        | cons n0 index =>
         have hpl:(0:Int)<((index.length+1:Nat):Int):=by omega
         have q5:(0:Int)<((n0 :: index).length:Int):=by rw[List.length_cons];exact hpl
         clear hpl HPL
         generalize hL:(n0 :: index).length=L at *
         go_wp2_with fail
         go_meet
         exact⟨by first | rfl |(simp;done) |(simp;omega),hbz⟩
       ·have q1:(size != 0)=true:=by simp[hs]
        have q2:(size == 0)=false:=by simp[hs]
        go_wp2_with fail
        go_meet
        exact⟨by first | rfl |(simp;done) |(simp;omega),hbz⟩
      ·have q1:(base != 0)=true:=by simp[hd]
       have q2:(base == 0)=false:=by simp[hd]
       go_wp2_with fail
       go_meet
       exact⟨by first | rfl |(simp;done) |(simp;omega),hbz⟩
     ·have HPL2:=HPL _ hbw
      generalize placeOk cells locals ⟨op,dst,base,size,index,e,f,mode,to_,line,col⟩=xp at *
      cases xp
      ·go_wp2_with (go_at_call 97;refine HPL2.out.mono ?_;rintro e w2 ⟨rfl,hb2⟩)
       go_meet
       exact⟨by first | rfl |(simp[*];done) |(simp;omega),Kit.Below.then hbz hb2⟩
      ·go_wp2_with (go_at_call 97;refine HPL2.out.mono ?_;rintro e w2 ⟨rfl,hb2⟩;have kh1':w2.cell? ⟨gh,1,none⟩=some (.bool true):=(hH5.below' (Kit.Below.then hbz hb2)).cell 1)
       go_meet
       exact⟨by first | rfl |(simp[*];done) |(simp;omega),Kit.Below.then hbz hb2⟩
    case rest =>
     obtain⟨rfl,hbz⟩:=hcut
     generalize (if b1=true then placeOk cells locals ⟨op,dst,base,size,index,e,f,mode,to_,line,col⟩else base == 0&&size == 0&&index.isEmpty)=x1 at *
     have hbw:=hb5.trans (hbz.mono (Nat.le_of_lt hlt1))
     clear HPL
     cases x1 with
     | false =>
      go_wp2_with fail
      go_ret
      exact⟨Kit.cB (show false=_ by rw[HACT.out];simp),by rw[HGA.out];exact hbw⟩
     | true =>
      obtain⟨E,ce,hve,_⟩:=HA.out.e
      simp only at hve
      subst hve
      obtain⟨F,cf,hvf,_⟩:=HA.out.f
      simp only at hvf
      subst hvf
      have HEe:∀w2,Below ga w w2→Hid (Calls Tryz.prog 98 #[.slice E e.length ce,.int .i64 locals] w2 fun r w'=>r=.returned (.bool (exprOk e locals))∧Below w2.heap.size w2 w') :=
       fun w2 hb2=>Lib.hid (expression_any E ce e locals hloc HA.out.he w2 (HA.out.e.below (HGA.out.symm ▸ hb2)))
      have HEf:∀w2,Below ga w w2→Hid (Calls Tryz.prog 98 #[.slice F f.length cf,.int .i64 locals] w2 fun r w'=>r=.returned (.bool (exprOk f locals))∧Below w2.heap.size w2 w') :=
       fun w2 hb2=>Lib.hid (expression_any F cf f locals hloc HA.out.hf w2 (HA.out.f.below (HGA.out.symm ▸ hb2)))
      have hze:(!e.isEmpty)=decide (0<e.length):=by cases e <;> simp
      have hzf:(!f.isEmpty)=decide (0<f.length):=by cases f <;> simp
      rw[hze,hzf]at HACT
      clear hze hzf HA
      generalize exprOk e locals=xe at *
      generalize exprOk f locals=xf at *
      generalize e.length=le at *
      generalize f.length=lf at *
      refine HK2 _ _ ?_
      go_step
      refine wp_seq_k fun K3 HK3=>?_
      go_cut [80] (fun s80 wz=>s80=.bool (!((b2 == decide (0<le))&&(b3 == decide (0<lf))&&(!b2 || xe)&&(!b3 || xf)))∧Below w5.heap.size w5 wz)
      case first =>
       have ka5:wc.cell? ⟨ga,5,none⟩=some (.slice E le ce):=(hA5.below' hbz).cell 5
       have ka6:wc.cell? ⟨ga,6,none⟩=some (.slice F lf cf):=(hA5.below' hbz).cell 6
       have kt0:wc.cell? ⟨gt,0,none⟩=some (.int .i64 locals):=(hT5.below' hbz).cell 0
       have kh2:wc.cell? ⟨gh,2,none⟩=some (.bool b2):=(hH5.below' hbz).cell 2
       have kh3:wc.cell? ⟨gh,3,none⟩=some (.bool b3):=(hH5.below' hbz).cell 3
       clear HACT HGA D10
       have hgz:ga≤wc.heap.size:=by have:=hbz.size;omega
       by_cases h2:0<le
       ·have g2:(0:Int)<(le:Int):=by omega
        cases b2
        ·skip
         go_wp2_with fail
         go_meet
         exact⟨by first | rfl |(simp[*];done) |(simp;omega),hbz⟩
        ·skip
         by_cases h3:0<lf
         ·have g3:(0:Int)<(lf:Int):=by omega
          cases b3
          ·skip
           go_wp2_with fail
           go_meet
           exact⟨by first | rfl |(simp[*];done) |(simp;omega),hbz⟩
          ·cases xe
           ·skip
            go_wp2_with (go_at_call 98;refine(HEe _ hbw).out.mono ?_;rintro e w2 ⟨rfl,hb2⟩;have hbz2:=Kit.Below.then hbz hb2;have kf3:w2.cell? ⟨gh,3,none⟩=some (.bool true):=(hH5.below' hbz2).cell 3)
            go_meet
            exact⟨by first | rfl |(simp[*];done) |(simp;omega),Kit.Below.then hbz hb2⟩
           ·skip
            go_upto_region 13 with (go_at_call 98;refine(HEe _ hbw).out.mono ?_;rintro e w2 ⟨rfl,hb2⟩;have hbz2:=Kit.Below.then hbz hb2;have kf3:w2.cell? ⟨gh,3,none⟩=some (.bool true):=(hH5.below' hbz2).cell 3;have kf6:w2.cell? ⟨ga,6,none⟩=some (.slice F lf cf):=(hA5.below' hbz2).cell 6;have kf0:w2.cell? ⟨gt,0,none⟩=some (.int .i64 locals):=(hT5.below' hbz2).cell 0;have hbw2:=hbw.trans (hb2.mono hgz);clear ka5 ka6 kt0 kh2 kh3)
            go_wp2_with (go_at_call 98;refine(HEf _ hbw2).out.mono ?_;rintro e w3 ⟨rfl,hb3⟩)
            go_meet
            exact⟨by first | rfl |(simp[*];done) |(simp;omega),Kit.Below.then hbz2 hb3⟩
         ·have g3:¬(0:Int)<(lf:Int):=by omega
          cases b3
          ·cases xe
           ·skip
            go_wp2_with (go_at_call 98;refine(HEe _ hbw).out.mono ?_;rintro e w2 ⟨rfl,hb2⟩;have hbz2:=Kit.Below.then hbz hb2;have kf3:w2.cell? ⟨gh,3,none⟩=some (.bool false):=(hH5.below' hbz2).cell 3)
            go_meet
            exact⟨by first | rfl |(simp[*];done) |(simp;omega),Kit.Below.then hbz hb2⟩
           ·skip
            go_wp2_with (go_at_call 98;refine(HEe _ hbw).out.mono ?_;rintro e w2 ⟨rfl,hb2⟩;have hbz2:=Kit.Below.then hbz hb2;have kf3:w2.cell? ⟨gh,3,none⟩=some (.bool false):=(hH5.below' hbz2).cell 3)
            go_meet
            exact⟨by first | rfl |(simp[*];done) |(simp;omega),Kit.Below.then hbz hb2⟩
          ·skip
           go_wp2_with fail
           go_meet
           exact⟨by first | rfl |(simp[*];done) |(simp;omega),hbz⟩
       ·have g2:¬(0:Int)<(le:Int):=by omega
        cases b2
        ·skip
         by_cases h3:0<lf
         ·have g3:(0:Int)<(lf:Int):=by omega
          cases b3
          ·skip
           go_wp2_with fail
           go_meet
           exact⟨by first | rfl |(simp[*];done) |(simp;omega),hbz⟩
          ·skip
           go_wp2_with (go_at_call 98;refine(HEf _ hbw).out.mono ?_;rintro e w3 ⟨rfl,hb3⟩)
           go_meet
           exact⟨by first | rfl |(simp[*];done) |(simp;omega),Kit.Below.then hbz hb3⟩
         ·have g3:¬(0:Int)<(lf:Int):=by omega
          cases b3
          ·skip
           go_wp2_with fail
           go_meet
           exact⟨by first | rfl |(simp[*];done) |(simp;omega),hbz⟩
          ·skip
           go_wp2_with fail
           go_meet
           exact⟨by first | rfl |(simp[*];done) |(simp;omega),hbz⟩
        ·skip
         go_wp2_with fail
         go_meet
         exact⟨by first | rfl |(simp[*];done) |(simp;omega),hbz⟩
      case rest =>
       obtain⟨rfl,hbz⟩:=hcut
       generalize ((b2 == decide (0<le))&&(b3 == decide (0<lf))&&(!b2 || xe)&&(!b3 || xf))=x2 at *
       have hbw:=hb5.trans (hbz.mono (Nat.le_of_lt hlt1))
       cases x2 with
       | false =>
        go_wp2_with fail
        go_ret
        exact⟨Kit.cB (show false=_ by rw[HACT.out];simp),by rw[HGA.out];exact hbw⟩
       | true =>
        refine HK3 _ _ ?_
        go_step
        refine wp_seq_k fun K4 HK4=>?_
        go_cut [115] (fun s115 wz=>s115=.bool (!(if b4=true then decide (0≤to_∧to_≤(n:Int))else to_ == 0))∧Below w5.heap.size w5 wz)
        case first =>
         have ka8:wc.cell? ⟨ga,8,none⟩=some (.int .i64 to_):=(hA5.below' hbz).cell 8
         have kt1:wc.cell? ⟨gt,1,none⟩=some (.slice A n c):=(hT5.below' hbz).cell 1
         have kh4:wc.cell? ⟨gh,4,none⟩=some (.bool b4):=(hH5.below' hbz).cell 4
         cases b4
         ·by_cases hd:to_=0
          ·subst hd
           go_wp2_with fail
           go_meet
           exact⟨by first | rfl |(simp;done) |(simp;omega),hbz⟩
          ·have q1:(to_ != 0)=true:=by simp[hd]
           have q2:(to_ == 0)=false:=by simp[hd]
           go_wp2_with fail
           go_meet
           exact⟨by first | rfl |(simp;done) |(simp;omega),hbz⟩
         ·by_cases hd:to_<0
          ·skip
           go_wp2_with fail
           go_meet
           exact⟨by first | rfl |(simp;done) |(simp;omega),hbz⟩
          ·by_cases hd2:(n:Int)<to_
           ·skip
            go_wp2_with fail
            go_meet
            exact⟨by first | rfl |(simp;done) |(simp;omega),hbz⟩
           ·skip
            go_wp2_with fail
            go_meet
            exact⟨by first | rfl |(simp;done) |(simp;omega),hbz⟩
        case rest =>
         obtain⟨rfl,hbz⟩:=hcut
         generalize (if b4=true then decide (0≤to_∧to_≤(n:Int))else to_ == 0)=x3 at *
         have hbw:=hb5.trans (hbz.mono (Nat.le_of_lt hlt1))
         cases x3 with
         | false =>
          go_wp2_with fail
          go_ret
          exact⟨Kit.cB (show false=_ by rw[HACT.out];simp),by rw[HGA.out];exact hbw⟩
         | true =>
          go_wp2_with fail
          go_ret
          exact⟨Kit.cB (show true=_ by rw[HACT.out];simp),by rw[HGA.out];exact hbw⟩
def WhRel (p:SrcP.Prog) (w1:World) (m:Nat) (s24:Value) (wr:World):Prop :=
 ∃k:Nat,s24=.int .i64 k∧k≤p.threads.length∧m=p.threads.length-k∧Below w1.heap.size w1 wr∧(p.threads.drop k).all (threadOk p.cells)=p.threads.all (threadOk p.cells)
def WhRel2 (ok:SrcP.Act→Bool) (l:List SrcP.Act) (w2:World) (m:Nat) (s45:Value) (wr:World):Prop :=
 ∃k:Nat,s45=.int .i64 k∧k≤l.length∧m=l.length-k∧Below w2.heap.size w2 wr∧(l.drop k).all ok=l.all ok
set_option maxRecDepth 100000 in
set_option maxHeartbeats 4000000 in
theorem Whole_any (p:SrcP.Prog) (vt:Value) (hlen:p.threads.length≤1048576) (w:World) (h:ThreadsAt w vt p.threads) :
  Calls Tryz.prog 40 #[.agg #[.int .i64 p.cells,vt]] w fun r w'=>r=.returned (.bool (wholeP p))∧Below w.heap.size w w':=by
 have HT:=Lib.hid h
 obtain⟨A,c,rfl,hE⟩:=h
 have HE:=Lib.hid hE
 clear hE
 by_cases h1:p.cells<0
 ·skip
  go_enter Tryz.func40,Tryz.ntmps40
  go_wp2_with fail
  go_ret
  refine⟨Kit.cB (?_:false=wholeP _),by repeat (first | exact Below.refl _ _ | refine Kit.Below.al ?_ _)⟩
  simp[wholeP];omega
 by_cases h2:4096<p.cells
 ·skip
  go_enter Tryz.func40,Tryz.ntmps40
  go_wp2_with fail
  go_ret
  refine⟨Kit.cB (?_:false=wholeP _),by repeat (first | exact Below.refl _ _ | refine Kit.Below.al ?_ _)⟩
  simp[wholeP];omega
 by_cases h3:64<p.threads.length
 ·have h3':(64:Int)<(p.threads.length:Int):=by omega
  go_enter Tryz.func40,Tryz.ntmps40
  go_wp2_with fail
  go_ret
  refine⟨Kit.cB (?_:false=wholeP _),by repeat (first | exact Below.refl _ _ | refine Kit.Below.al ?_ _)⟩
  simp[wholeP];omega
 have h3':¬(64:Int)<(p.threads.length:Int):=by omega
 have hwp:wholeP p=p.threads.all (threadOk p.cells):=by
  unfold wholeP
  rw[decide_eq_true (by omega),Bool.true_and]
 have HWP:=Lib.hid hwp
 clear hwp
 go_enter Tryz.func40,Tryz.ntmps40
 go_wp2_with fail
 obtain⟨w1,hw1⟩:∃x,x=w.alloc (.cells #[.int .i64 p.cells,.slice A p.threads.length c] 24):=⟨_,rfl⟩
 have hb1:Below w.heap.size w w1:=by rw[hw1];exact Kit.bl1
 have hP1:Blk w1 w.heap.size 24 #[.int .i64 p.cells,.slice A p.threads.length c]:=by rw[hw1];exact Blk.new _ _ _
 rw[←hw1]
 clear hw1
 go_loopg [24] p.threads.length (fun m s24 wr=>WhRel p w1 m s24 wr)
 case atStart=>exact⟨0,rfl,Nat.zero_le _,rfl,Below.refl _ _,rfl⟩
 case round =>
  obtain⟨k,rfl,hk,hm,hb,hok⟩:=hrel
  have HM:=Lib.hid hm
  clear hm
  by_cases hke:k<p.threads.length
  ·obtain⟨ad,va,rfl,hC,hAc,hal,_⟩:=HE.out k p.threads[k] (by simp[hke])
   rw[List.drop_eq_getElem_cons hke,List.all_cons]at hok
   have HOK:=Lib.hid hok
   clear hok
   generalize hn:p.threads[k]=t at *
   obtain⟨tl,acts⟩:=t
   have hbw:=Kit.Below.then hb1 hb
   replace hC:=hC.below hbw
   have hAw:=hAc.below hbw
   clear hAc
   simp only at hC hAw hal
   have n0:wr.cell? (ad.add (k*2))=some (.int .i64 tl):=hC 0 _ rfl
   have n1:wr.cell? ⟨(ad.add (k*2)).block,(ad.add (k*2)).off+1,none⟩=some va:=hC 1 _ rfl
   have a1:(k:Int)<(p.threads.length:Int):=by omega
   have a2:(0:Int)≤(k:Int):=by omega
   have HAW:=Lib.hid hAw
   obtain⟨B,d,rfl,hD⟩:=hAw
   have HD:=Lib.hid hD
   clear hD
   go_upto_region 6 with fail
   obtain⟨wx,hwx⟩:∃x,x=wr.alloc (.cells #[.int .i64 tl,.slice B acts.length d] 60):=⟨_,rfl⟩
   have hbx:Below w1.heap.size w1 wx:=by rw[hwx];exact Kit.Below.al hb _
   have hrx:Below wr.heap.size wr wx:=by rw[hwx];exact Kit.bl1
   have hTX:Blk wx wr.heap.size 60 #[.int .i64 tl,.slice B acts.length d]:=by rw[hwx];exact Blk.new _ _ _
   have hPX:=hP1.below' hbx
   have hglt:=hTX.lt
   generalize hgl:wr.heap.size=gl at *
   rw[←hwx]
   clear hwx n0 n1 hC
   have n0:wx.cell? ⟨gl,0,none⟩=some (.int .i64 tl):=hTX.cell 0
   have n1:wx.cell? ⟨gl,1,none⟩=some (.slice B acts.length d):=hTX.cell 1
   by_cases g1:tl<0
   ·skip
    go_wp2_with fail
    go_ret
    refine⟨Kit.cB (?_:false=wholeP p),Kit.Below.then hb1 hbx⟩
    rw[HWP.out,←HOK.out]
    simp[threadOk] <;> omega
   by_cases g2:24<tl
   ·skip
    go_wp2_with fail
    go_ret
    refine⟨Kit.cB (?_:false=wholeP p),Kit.Below.then hb1 hbx⟩
    rw[HWP.out,←HOK.out]
    simp[threadOk] <;> omega
   by_cases g3:65536<acts.length
   ·have g3':(65536:Int)<(acts.length:Int):=by omega
    go_wp2_with fail
    go_ret
    refine⟨Kit.cB (?_:false=wholeP p),Kit.Below.then hb1 hbx⟩
    rw[HWP.out,←HOK.out]
    simp[threadOk] <;> omega
   have g3':¬(65536:Int)<(acts.length:Int):=by omega
   obtain⟨nl,rfl⟩:=Int.eq_ofNat_of_zero_le (Int.not_lt.1 g1)
   have hto:threadOk p.cells ⟨nl,acts⟩=acts.all (actOk p.cells nl acts.length):=by
    unfold threadOk
    simp only
    rw[decide_eq_true (by omega),Bool.true_and]
   rw[hto]at HOK
   clear hto
   have hWA:∀(j:Nat) (a:SrcP.Act) (vi ve vf:Value) (w2:World),ActV w2 vi ve vf a→Hid (Calls Tryz.prog 59 #[.agg (actC a vi ve vf),.agg #[.int .i64 p.cells,.slice (some ad) p.threads.length c],.agg #[.int .i64 nl,.slice B acts.length d]] w2 fun r w'=>r=.returned (.bool (actOk p.cells nl acts.length a))∧Below w2.heap.size w2 w') :=
    fun j a vi ve vf w2 ha=>Lib.hid (wholeAct_any a vi ve vf _ p.cells (by omega) nl acts.length (by omega) (by omega) B d w2 ha)
   generalize hokf:actOk p.cells nl acts.length=okf at *
   go_wp2_with fail
   go_loopg [45] acts.length (fun m s45 w3=>WhRel2 okf acts wx m s45 w3)
   case atStart=>exact⟨0,rfl,Nat.zero_le _,rfl,Below.refl _ _,rfl⟩
   case round =>
    obtain⟨j,rfl,hj,hm2,hb3,hok2⟩:=hrel
    have HM2:=Lib.hid hm2
    clear hm2
    by_cases hje:j<acts.length
    ·obtain⟨ad2,vi,ve,vf,rfl,hC2,hAV⟩:=HD.out j acts[j] (by simp[hje])
     rw[List.drop_eq_getElem_cons hje,List.all_cons]at hok2
     have HOK2:=Lib.hid hok2
     clear hok2
     generalize hna:acts[j]=a at *
     have hbr3:=hrx.trans (hb3.mono (Nat.le_of_lt hglt))
     have hC3:=hC2.below (w':=wr) (by rw[hgl];exact hbr3)
     have hAV3:=hAV.below (w':=wr) (by rw[hgl];exact hbr3)
     clear hC2 hAV
     have HAV3:=Lib.hid hAV3
     obtain⟨I,ci,rfl,_⟩:=hAV3.index
     obtain⟨E,ce,rfl,_⟩:=hAV3.e
     obtain⟨F,cf,rfl,_⟩:=hAV3.f
     clear hAV3
     generalize a.index.length=li at *
     generalize a.e.length=le at *
     generalize a.f.length=lf at *
     have n2:wr.cell? (ad2.add (j*11))=some (.int .i64 a.op):=hC3 0 _ rfl
     have r1:wr.cell? ⟨(ad2.add (j*11)).block,(ad2.add (j*11)).off+1,none⟩=some (.int .i64 a.dst):=hC3 1 _ rfl
     have r2:wr.cell? ⟨(ad2.add (j*11)).block,(ad2.add (j*11)).off+2,none⟩=some (.int .i64 a.base):=hC3 2 _ rfl
     have r3:wr.cell? ⟨(ad2.add (j*11)).block,(ad2.add (j*11)).off+3,none⟩=some (.int .i64 a.size):=hC3 3 _ rfl
     have r4:wr.cell? ⟨(ad2.add (j*11)).block,(ad2.add (j*11)).off+4,none⟩=some (.slice I li ci):=hC3 4 _ rfl
     have r5:wr.cell? ⟨(ad2.add (j*11)).block,(ad2.add (j*11)).off+5,none⟩=some (.slice E le ce):=hC3 5 _ rfl
     have r6:wr.cell? ⟨(ad2.add (j*11)).block,(ad2.add (j*11)).off+6,none⟩=some (.slice F lf cf):=hC3 6 _ rfl
     have r7:wr.cell? ⟨(ad2.add (j*11)).block,(ad2.add (j*11)).off+7,none⟩=some (.int .i64 a.mode):=hC3 7 _ rfl
     have r8:wr.cell? ⟨(ad2.add (j*11)).block,(ad2.add (j*11)).off+8,none⟩=some (.int .i64 a.to):=hC3 8 _ rfl
     have r9:wr.cell? ⟨(ad2.add (j*11)).block,(ad2.add (j*11)).off+9,none⟩=some (.int .i64 a.line):=hC3 9 _ rfl
     have r10:wr.cell? ⟨(ad2.add (j*11)).block,(ad2.add (j*11)).off+10,none⟩=some (.int .i64 a.col):=hC3 10 _ rfl
     have b1:(j:Int)<(acts.length:Int):=by omega
     have b2:(0:Int)≤(j:Int):=by omega
     clear n0 n1
     go_upto_region 11 with fail
     obtain⟨wy,hwy⟩:∃x,x=wr.alloc (.cells (actC a (.slice I li ci) (.slice E le ce) (.slice F lf cf)) 58):=⟨_,rfl⟩
     have hry:Below wr.heap.size wr wy:=by rw[hwy];exact Kit.bl1
     have hby:Below wx.heap.size wx wy:=Kit.Below.then hb3 hry
     have hTY:=hTX.below' hby
     have hPY:=hPX.below' hby
     have hAY:Blk wy wr.heap.size 58 (actC a (.slice I li ci) (.slice E le ce) (.slice F lf cf)):=by rw[hwy];exact Blk.new _ _ _
     have HW:=hWA j a _ _ _ wy (HAV3.out.below hry)
     have hwy':=hwy.symm
     unfold actC at HW hwy' hAY
     rw[hwy']
     generalize wr.heap.size=g3 at *
     clear hwy hwy' n2 r1 r2 r3 r4 r5 r6 r7 r8 r9 r10 hC3 HAV3 hWA
     obtain⟨n2,r1,r2,r3,r4,r5,r6,r7,r8,r9,r10⟩:=Kit.cells11 hAY
     have n0:wy.cell? ⟨gl,0,none⟩=some (.int .i64 nl):=hTY.cell 0
     have n1:wy.cell? ⟨gl,1,none⟩=some (.slice (some ad2) acts.length d):=hTY.cell 1
     have p0:wy.cell? ⟨w.heap.size,0,none⟩=some (.int .i64 p.cells):=hPY.cell 0
     have p1:wy.cell? ⟨w.heap.size,1,none⟩=some (.slice (some ad) p.threads.length c):=hPY.cell 1
     generalize okf a=b at *
     cases b with
     | false =>
      go_wp2_with (go_at_call 59;refine HW.out.mono ?_;rintro e w5 ⟨rfl,hb5⟩)
      go_ret
      refine⟨Kit.cB (?_:false=wholeP p),Kit.Below.then hb1 (Kit.Below.then hbx (Kit.Below.then hby hb5))⟩
      rw[HWP.out,←HOK.out,←HOK2.out]
      rfl
     | true =>
      go_wp2_with (go_at_call 59;refine HW.out.mono ?_;rintro e w5 ⟨rfl,hb5⟩)
      go_roundg (acts.length-(j+1))
      case measure=>have:=HM2.out;omega
      case rel=>exact⟨j+1,by push_cast;rfl,hje,rfl,Kit.Below.then hby hb5,HOK2.out⟩
    ·obtain rfl:j=acts.length:=by omega
     rw[List.drop_length]at hok2
     have HOK2:=Lib.hid hok2
     clear hok2
     go_wp2_with fail
     go_roundg (p.threads.length-(k+1))
     case measure=>have:=HM.out;omega
     case rel=>exact⟨k+1,by push_cast;rfl,hke,rfl,Kit.Below.then hbx hb3,by rw[←HOK.out,←HOK2.out];rfl⟩
  ·obtain rfl:k=p.threads.length:=by omega
   rw[List.drop_length]at hok
   have HOK:=Lib.hid hok
   clear hok
   go_wp2_with fail
   go_ret
   exact⟨Kit.cB (show true=wholeP p by rw[HWP.out,←HOK.out];rfl),Kit.Below.then hb1 hb⟩
end Go.Proofs.YtmjilfamjlnigaaGreat.SrcW
