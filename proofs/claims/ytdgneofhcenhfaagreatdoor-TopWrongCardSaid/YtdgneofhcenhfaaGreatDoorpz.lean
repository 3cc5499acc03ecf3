/- A part. -/
import Derived.Test.YtdgneofhcenhfaaGreatDoorpa
import Derived.Test.YtdgneofhcenhfaaGreatDoorRows
import Derived.Lib.SmallJoins
import Derived.LaidMore
import Derived.Stop.Joined
import GoSem.ClaimGoes
set_option maxHeartbeats 16000000
set_option maxRecDepth 100000
set_option linter.all false
open Go renaming Value->ε
open Go.DataW renaming TrodAll->tE
open Go.Proofs.Tryz renaming prog->δ
open List renaming mem_append_left->qy,mem_cons_self->dP
open Option renaming some->N
open Go RowKit Lib Proofs.Tryz
namespace Go.Proofs.YtdgneofhcenhfaaGreatDoor
attribute [local go_sem ↓] wp_at_zero wp_at_succ
section
open Go.ChangeShapes Go.WideShapes Go.ChangeAt
section
variable {H0:Type} {enc:TypeId×ε->H0} {P:Program}
theorem QM(n:laidOutB P=true){f l:World}(m:Below f.heap.size f l){o:Nat->Bool}:∀ {g:List TypeId} {k:List ε} {h:List (DataW H0)} {d:List MemPlace},(∀e∈g,P.readableRec e=true/\e<P.types.size)->tE enc P f 0 (λ_=>true) true g k h d->(∀b∈d,b.block<f.heap.size/\o b.block=true)->tE enc P l 0 o true g k h d
 |[],[],[],d,_,a,_=>a
 |e::g,v::k,x::h,d,j,a,i=>by
  obtain⟨t,u,p,q,r⟩:=a;subst r
  exact⟨t,u,WideElems.Trod_stays n (j e (dP ..)).1 (j e (dP ..)).2 p (λb c=>m.same (i b (qy _ c)).1) (λb c=>(i b (qy _ c)).2),
   QM n m (λw s=>j w (List.mem_cons_of_mem _ s)) q (λb c=>i b (List.mem_append_right _ c)),rfl⟩
 |[],_::_,_,_,_,a,_=>by simp[tE] at a
 |[],[],_::_,_,_,a,_=>by simp[tE] at a
 |_::_,[],_,_,_,a,_=>by simp[tE] at a
 |_::_,_::_,[],_,_,a,_=>by simp[tE] at a
theorem acp{d:Func}{i:ChangeSpec}{apart fresh handsOn again:Bool}{f g:World}{args:Array ε}{v:ε}{j k:List (DataW H0)}{c pa pv:List MemPlace}(m:DataW.Whole enc P d.params.toList i.vars apart f args.toList j k c)(r:∀(h:Nat) (e:Nat->Bool) (z:Bool),tE enc P g h e z d.resultTypes.toList (v.resultList d.resultTypes.size) (i.fn H0 (j++k)).results [])(n:∀e:Nat->Bool,(∀a∈c,e a.block=true)->tE enc P g 0 e true d.params.toList args.toList (i.fn H0 (j++k)).args pa)(s:∀e:Nat->Bool,(∀a∈c,e a.block=true)->DataW.TrodVars enc P g e i.vars (i.fn H0 (j++k)).vars pv)(l:c=pa++pv)(o:Below f.heap.size f g)(B:∀(t:Nat) (x:TypeId) (w:ε),d.resultTypes[t]? =N x->(v.resultList d.resultTypes.size)[t]? =N w->Value.okWide P g .any 0 x w):i.post enc P d apart fresh handsOn again f args v g:=by
 have q:∀a∈c,a.block<f.heap.size:=λa b=>m.lt a b;have hold:∀a∈c,(λh=>decide (h<f.heap.size)) a.block=true:=λa b=>by simpa using q a b
 refine⟨j,k,c,[],pa,pv,m,r _ _ _,n _ hold,s _ hold,World.keptBut_mono (λa b=>⟨b,?_⟩) (o.frame (·∈c)),λ_=> ?_⟩
 .rw[l,List.mem_append] at b;exact Or.inr b
 obtain⟨_,_,_,_,_,C,A⟩:=m;refine⟨B,_,_,([]++pa)++pv,⟨[]++pa,pv,trodAll_append (n _ (λ_ _=>rfl)) (r _ _ _),s _ (λ_ _=>rfl),rfl,?_,?_⟩,?_⟩
 .intro h u b;have p:MemPlace.cell h u∈c:=by rw[l];simpa using b
  rw[o.frozen (q _ p)];exact C h u p
 .intro y;have:=A y;rw[l] at this;simpa using this
 intro a b _;rw[l];simpa using b
end
theorem agv:ownKnob prog.godebug=none:=by kernel_rfl
def sJ:List (String×DataW Unit):=[("math/bits.deBruijn32tab",Rows.laid_math_bits_deBruijn32tab),("math/bits.deBruijn64tab",Rows.laid_math_bits_deBruijn64tab),("internal/strconv.uint64pow10",Rows.laid_internal_strconv_uint64pow10),("unicode/utf8.acceptRanges",Rows.laid_unicode_utf8_acceptRanges),("unicode/utf8.first",Rows.laid_unicode_utf8_first)]
end
section
open Go
theorem abC:(prog.funcs.all λa=> !a.goes)=true:=by kernel_rfl
theorem acD(d:FuncId):prog.goes d=false:=by
 have b:=Array.all_eq_true_iff_forall_mem.1 abC
 have f:∀a:Nat,(prog.funcs[a]?).any Func.goes=false:=λa=>by
  cases c:prog.funcs[a]? with
  |none=>rfl
  |some h=>have:=b h (Array.mem_of_getElem? c);simpa using this
 have e:prog.funcs.any Func.goes=false:=by rw[Array.any_eq_false];intro i g;have:=b _ (Array.getElem_mem g);simpa using this
 unfold Program.goes;rw[e,Bool.and_false,Bool.or_false,List.any_eq_false];intro a _;rw[f];exact Bool.false_ne_true
theorem adi:false=Rows.topWrongRow.goesBy δ:=by
 have b:∀a:Option FuncId,false=(a.any prog.goes||false):=λa=>by
  cases a with
  |none=>rfl
  |some c=>rw[Option.any_some,acD];rfl
 unfold OpenClaim.goesBy Program.goesAt Program.goesFrom;exact b _
theorem j1:Rows.topWrongRow.wf (OpenSpec.ofChange Rows.topWrongSpec)=true:=by kernel_rfl
theorem j3:mapsRowed δ=true:=by kernel_rfl
theorem j4:f3.params.all (prog.readableRec ·)=true:=by kernel_rfl
theorem j5:namedTie δ Rows.topWrongRow.named Rows.topWrongSpec.vars=true:=by kernel_rfl
theorem j6:(Rows.topWrongRow.stops==[])=true:=by kernel_rfl
theorem j7:(prog.stops==[])=true:=by kernel_rfl
theorem j8:(Rows.topWrongRow.knobs==[])=true:=by kernel_rfl
theorem j9:(prog.stopKnobs==[])=true:=by kernel_rfl
theorem j10:(Rows.topWrongRow.inPlace==prog.inPlace 3)=true:=by kernel_rfl
theorem j11:(Rows.topWrongRow.unfollowed==prog.unfollowed 3)=true:=by kernel_rfl
theorem j12:(Rows.topWrongRow.recurses==prog.recurses 3)=true:=by kernel_rfl
theorem j13:(Rows.topWrongRow.named==prog.varsNamed 3)=true:=by kernel_rfl
theorem j14:(Rows.topWrongRow.maps==(f3.params.toList++Rows.topWrongSpec.plain.varTypes δ).any (prog.mapsRec ·))=true:=by kernel_rfl
theorem j15:(Rows.topWrongRow.ifaces==(f3.params.toList++Rows.topWrongSpec.plain.varTypes δ).any (prog.ifacesRec ·))=true:=by kernel_rfl
theorem j16:(Rows.topWrongRow.mapsOut==prog.mapsAmong f3.resultTypes.toList)=true:=by kernel_rfl
theorem j17:(Rows.topWrongRow.loops==(f3.params.toList++Rows.topWrongSpec.plain.varTypes δ).any (prog.loopsFrom ·))=true:=by kernel_rfl
theorem j18:(Rows.topWrongRow.wideKeys==(f3.params.toList++Rows.topWrongSpec.plain.varTypes δ++f3.resultTypes.toList).any (prog.wideKeysFrom ·))=true:=by kernel_rfl
theorem j19:Rows.topWrongSpec.vars.all (prog.varReadable ·)=true:=by kernel_rfl
theorem j20:f3.resultTypes.all (λa=>prog.readableRec a&&decide (a<prog.types.size))=true:=by kernel_rfl
theorem j21:(Rows.topWrongRow.ifacesOut==f3.resultTypes.toList.any (prog.ifacesRec ·))=true:=by kernel_rfl
theorem j22:(Rows.topWrongRow.loopsOut==f3.resultTypes.toList.any (prog.loopsFrom ·))=true:=by kernel_rfl
theorem j23:(Rows.topWrongRow.plainKeys==prog.plainKeys)=true:=by kernel_rfl
theorem j24:Rows.topWrongRow.shortTexts.isNone=true:=by kernel_rfl
theorem j25:prog.stopsHeard=true:=by kernel_rfl
theorem j26:prog.mayEnter=true:=by kernel_rfl
theorem j27:(Rows.topWrongRow.lifted==prog.liftsFinal)=true:=by kernel_rfl
theorem j28:(prog.make==N Rows.topWrongRow.make)=true:=by kernel_rfl
theorem j30:(Rows.topWrongRow.pinned==Rows.topWrongRow.pinnedBy)=true:=by kernel_rfl
theorem j31:(Rows.topWrongRow.veiled==(f3.params.toList++Rows.topWrongSpec.plain.varTypes δ++f3.resultTypes.toList).any (prog.veiledRec ·))=true:=by kernel_rfl
theorem j32:Rows.topWrongRow.veiledFits δ f3.params.toList (f3.params.toList++Rows.topWrongSpec.plain.varTypes δ++f3.resultTypes.toList)=true:=by kernel_rfl
theorem adh:joinedFacts δ 3 f3 Rows.topWrongSpec Rows.topWrongRow=true:=by unfold joinedFacts;rw[j1,Jk,j3,j4,j5,j6,j7,j8,j9,j10,j11,j12,j13,j14,j15,j16,j17,j18,j19,j20,j21,j22,j23,j24,j25,j26,j27,j28,j30,j31,j32];kernel_rfl
end
