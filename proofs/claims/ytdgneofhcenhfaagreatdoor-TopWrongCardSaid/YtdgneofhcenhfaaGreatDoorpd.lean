/- TopWrong: a part. -/
import Derived.Test.YtdgneofhcenhfaaGreatDoorpc
import Derived.Shelf.Strings.Builder2
import Derived.Shelf.Small.Wraps
import Derived.Shelf.Strings.BuilderF
import Derived.Shelf.Utf8.RuneCount
import Derived.Shelf.Strconv.Itoa3
import Derived.Shelf.Strings.Shaped
import Derived.Shelf.Sort.Plain
import Derived.Shelf.GgClosure.StringsRunes
import Derived.Shelf.Strings.Split
import Derived.Shelf.Unicode.Decode
import Derived.Shelf.Strings.RuneCount
import Derived.Shelf.Strings.FuncGrows
import Derived.Shelf.Slices.Turned
import Derived.Shelf.Slices.Clone
import Derived.Shelf.Slices.SearchI
import Derived.Shelf.Slices.Cells
import Derived.Shelf.Slices.In.SortNone
import Derived.Shelf.SlicesE.Index
import Derived.Shelf.SlicesQ.Equal
import Derived.Shelf.SlSortCmp.NoneTotal
import Derived.Shelf.Strings.SlTrimAscii
set_option maxHeartbeats 16000000
set_option maxRecDepth 100000
set_option linter.all false
open And renaming intro->Φ
open Array renaming getElem?_eq_getElem->ql,getElem?_eq_none->ll,getElem?_toList->Ee,length_toList->gI,replicate->Aj
open Bool renaming false_and->xJ,not_true->Eh
open ByteArray renaming empty->kj,mk->D,size->Ak
open Go renaming Addr->ay,Calls->ν,Ending->aI,Value->ε,World->Z,bodyPost_ret->Ω,maxLen->Χ,results->ag
open Go.Addr renaming mk->U
open Go.Builtin renaming append_->gJ
open Go.Calls renaming quiet_of->JF
open Go.Ending renaming returned->ξ
open Go.Exit renaming noGoto_ret->tF
open Go.Instr renaming mapUpdate->fB,next->Am
open Go.IntKind renaming i64->E,u8->bh
open Go.IntWalk renaming i64_in->vi
open Go.Lib renaming TabIs->An,below_iterAt->JG,byteCells->mT,cell_of_heap->JH,extract_data->JI,hasPrefix->En,hid->K,indexByte->tG,iterAt_heap->JJ,pow10Tab->Eo,strCells->Ao,toList_data->iy,trimPrefix->Ep
open Go.Obj renaming cells->ζ
open Go.Oper renaming upon_value->JL
open Go.Proofs.Tryz renaming func283->JN,func54->Es,func61->xO,func90->qu,func91->Et,ntmps283->JP,ntmps61->xQ,ntmps62->JQ,ntmps90->qv,ntmps91->Ew,ntmps92->JR,prog->δ,results62->JS,results91->EE,results92->JU
open Go.Result renaming andThen->Az
open Go.RowKit renaming Below->bH,Hid->η,intOf->jE
open Go.RowKit.Below renaming refl->iz
open Go.Utf8 renaming decode->km
open Go.Value renaming agg->Μ,bool->ι,func->af,int->I,ownBlock->iM,pointer->π,slice->V,string->H,tuple->σ
open Go.World renaming cell?->fN,ownsRow_nil->db
open List renaming all_eq_true->xS,append_nil->AA,contains_iff_mem->EK,dropWhile_sublist->J3,find?_append->rD,find?_eq_none->lM,getElem?_cons_zero->Τ,getElem?_eq_getElem->cT,getElem?_eq_some_iff->iN,getElem?_take->kD,getElem?_toArray->Ρ,length_append->cL,length_cons->eI,length_eq_zero_iff->kG,length_filter_le->jo,length_take->lO,map_append->lP,mem_append->dO,mem_cons->dD,mem_cons_of_mem->eZ,mem_cons_self->dP,mem_filter->dE,mem_flatMap->J6,mem_of_getElem?->ln,mem_singleton->cj,nil_append->AI,size_toArray->oZ,take_of_length_le->mo
open Nat renaming add_zero->Fe,le_refl->Ο,le_trans->aJ,lt_of_lt_of_le->dQ,lt_or_ge->fU,min_eq_left->AU,mul_one->AV,not_lt_zero->Fh,zero_add->eP,zero_le->ai
open Option renaming map_eq_some_iff->J7,none->A,some->N
open Option.some renaming inj->cr
open UInt8 renaming toNat_inj->AY,toNat_lt->J8
open Go Go.RowKit Go.Lib Go.Proofs.Tryz
namespace Go.Proofs.YtdgneofhcenhfaaGreatDoor
attribute [local go_sem ↓] Go.wp_at_zero Go.wp_at_succ
section
open Go.Shelf
def Q8:Go.Shelf.Ren:=⟨fun|169=>213|a=>a,fun|70=>283|9=>9|0=>0|72=>285|37=>113|127=>340|3=>3|5=>5|a=>a,fun|a=>a⟩
theorem af5:Go.Proofs.Lays.n169 δ Q8:=by constructor<;>first|kernel_rfl|(intros;kernel_rfl)
theorem ae4:Builder.Extra δ Q8:= {
 sizeBuilder:=by kernel_rfl
 liesBuilder:=by kernel_rfl
 t5:=underlying5
 a5:=isAgg5
 z5:=sizeOf5
 v5:=zeroValue5
 infoByte:=by kernel_rfl
 cellsByte:=by kernel_rfl
 sizeByte:=by kernel_rfl
 neB5:=by decide}
open Go.RowKit in
theorem QQ(b c:Nat)(d:List UInt8)(a:Z)(f:Lib.IsBuilder 285 5 b c (mT d) a)(g:b<=a.heap.size):
 ν δ 213 #[π (N (U c 0 A))] a λe h=>e=ξ (H (D d.toArray))/\bH b a h:=Any.Builder_String_any af5 ae4 b c d a f g
def af1:Go.Shelf.Ren:=⟨fun|161=>221|231=>139|227=>141|233=>142|235=>144|228=>202|197=>203|151=>85|260=>274|152=>147|137=>206|119=>207|224=>208|225=>209|217=>276|266=>334|a=>a,fun|9=>9|4=>4|3=>3|5=>5|117=>219|116=>218|0=>0|124=>222|105=>277|21=>21|119=>342|46=>39|139=>345|138=>344|a=>a,fun|3=>1|4=>2|a=>a⟩
theorem af0:Go.Proofs.Lays.n161 δ af1:=by constructor<;>first|kernel_rfl|(intros;kernel_rfl)
def af4:Go.Shelf.Ren:=⟨fun|162=>218|232=>140|227=>141|234=>143|236=>145|228=>202|271=>204|151=>85|120=>275|197=>203|152=>147|260=>274|137=>206|119=>207|224=>208|225=>209|217=>276|266=>334|a=>a,fun|9=>9|4=>4|3=>3|5=>5|117=>219|116=>218|0=>0|124=>222|21=>21|105=>277|46=>39|119=>342|139=>345|138=>344|a=>a,fun|3=>1|4=>2|a=>a⟩
theorem af2:Go.Proofs.Lays.n162 δ af4:=by constructor<;>first|kernel_rfl|(intros;kernel_rfl)
def afZ:Go.Shelf.Ren:=⟨fun|160=>82|232=>140|231=>139|227=>141|234=>143|233=>142|236=>145|235=>144|228=>202|271=>204|151=>85|197=>203|120=>275|152=>147|260=>274|137=>206|119=>207|224=>208|225=>209|217=>276|266=>334|a=>a,fun|9=>9|4=>4|3=>3|5=>5|117=>219|116=>218|0=>0|124=>222|21=>21|105=>277|46=>39|119=>342|139=>345|138=>344|a=>a,fun|3=>1|4=>2|a=>a⟩
theorem Q7:Go.Proofs.Lays.n160 δ afZ:=by constructor<;>first|kernel_rfl|(intros;kernel_rfl)
def afM:Go.Shelf.Ren:=⟨fun|119=>207|a=>a,fun|21=>21|4=>4|a=>a,fun|a=>a⟩
theorem afL:Go.Proofs.Lays.n119 δ afM:=by constructor<;>first|kernel_rfl|(intros;kernel_rfl)
theorem agW(a:Int)(b:Z):
 ν δ 207 #[I .i32 a] b λc d=>c=ξ (ι (Lib.validRune a))/\d=b:=Any.utf8_ValidRune afL a b
def afO:Go.Shelf.Ren:=⟨fun|137=>206|217=>276|266=>334|a=>a,fun|9=>9|5=>5|3=>3|a=>a,fun|a=>a⟩
theorem afN:Go.Proofs.Lays.n137 δ afO:=by constructor<;>first|kernel_rfl|(intros;kernel_rfl)
open Go.RowKit in
theorem agH(b:BA)(a:Int)(c:Z):
 ν δ 206 #[H b,I bh a] c λd e=>d=ξ (I E (tG b.data.toList a.toNat.toUInt8))/\e=c:=Any.strings_IndexByte afN b a c
def afI:Go.Shelf.Ren:=⟨fun|103=>150|210=>217|206=>281|a=>a,fun|9=>9|4=>4|24=>144|3=>3|a=>a,fun|a=>a⟩
theorem afH:Go.Proofs.Lays.n103 δ afI:=by constructor<;>first|kernel_rfl|(intros;kernel_rfl)
open Go.RowKit in
theorem agF(b a:BA)(c:Z):
 ν δ 150 #[H b,H a] c λd e=>d=ξ (σ #[H ⟨(Ep b.data.toList a.data.toList).toArray⟩,ι (En b.data.toList a.data.toList)])/\e=c:=Any.strings_CutPrefix afH b a c
def agi:Go.Shelf.Ren:=⟨fun|283=>379|a=>a,fun|3=>3|9=>9|4=>4|a=>a,fun|a=>a⟩
theorem agh:Go.Proofs.Lays.n283 δ agi:=by constructor<;>first|kernel_rfl|(intros;kernel_rfl)
open Go.Lib in
theorem afo(a:Nat)(d:a<100)(b:Z):
 ν δ 379 #[I E a] b λc e=>c=ξ (H ⟨(Lib.decDigits a).toArray⟩)/\e=b:=Any.internal_strconv_small agh a d b
def agm:Go.Shelf.Ren:=⟨fun|284=>380|129=>129|317=>397|318=>398|a=>a,fun|53=>32|3=>3|212=>457|0=>0|4=>4|46=>39|5=>5|9=>9|a=>a,fun|17=>3|a=>a⟩
theorem agl:Go.Proofs.LaysM.n284 δ agm:=by constructor<;>first|kernel_rfl|(intros;kernel_rfl)|(constructor<;>first|kernel_rfl|(intros;kernel_rfl))
open Go.Lib in
theorem afn(a:Nat)(d:1<=a)(e:a<18446744073709551616)(b:Z)(f:An δ b "internal/strconv.uint64pow10" .u64 Eo):
 ν δ 380 #[I .u64 a] b λc g=>c=ξ (I E (Lib.nDigits a))/\g=b:=Any.internal_strconv_numDigits agl a d e b f
def agk:Go.Shelf.Ren:=⟨fun|285=>381|a=>a,fun|37=>113|53=>32|3=>3|4=>4|51=>169|9=>9|5=>5|0=>0|a=>a,fun|a=>a⟩
theorem agj:Go.Proofs.Lays.n285 δ agk:=by constructor<;>first|kernel_rfl|(intros;kernel_rfl)
open Go.RowKit Go.Sort Go.Lib in
theorem afm(blk c f b:Nat)(a:Array UInt8)(d:Z)(i:Holds (λ(e:UInt8)=>I bh (e.toNat:Int)) d blk c a)(k:b<10^a.size)(l:b<18446744073709551616)(j:a.size<4611686018427387904):
 ν δ 381 #[V (N (U blk c A)) a.size f,I .u64 b] d λh o=>h=ξ (σ #[])/\∃(m n:Nat) (g:Array UInt8),o=(putRow (λ(e:UInt8)=>I bh (e.toNat:Int)) d blk c g).drewN m/\FmtInv a.size b 0 n g:=Any.internal_strconv_formatBase10 agj blk c f b a d i k l j
def af7:Go.Shelf.Ren:=⟨fun|171=>240|243=>296|246=>354|283=>379|284=>380|285=>381|286=>382|129=>129|317=>397|318=>398|319=>399|320=>400|337=>410|338=>411|a=>a,fun|3=>3|9=>9|2=>2|4=>4|171=>443|0=>0|53=>32|37=>113|5=>5|173=>445|212=>457|51=>169|20=>20|213=>458|46=>39|232=>487|233=>488|a=>a,fun|17=>3|18=>4|19=>5|a=>a⟩
theorem af6:Go.Proofs.Lays.n171 δ af7:=by constructor<;>first|kernel_rfl|(intros;kernel_rfl)
open Go.RowKit Go.Sort Go.Lib in
theorem agD(a:Nat)(d:a<100)(b:Z):
 ν δ 240 #[I E a] b λc e=>c=ξ (H ⟨(Lib.decDigits a).toArray⟩)/\e=b:=Any.strconv_Itoa_small af6 a d b
def afQ:Go.Shelf.Ren:=⟨fun|144=>210|143=>277|219=>335|217=>276|225=>209|224=>208|267=>371|266=>334|314=>392|a=>a,fun|9=>9|4=>4|3=>3|5=>5|46=>39|146=>452|51=>169|a=>a,fun|1=>0|a=>a⟩
theorem afP:Go.Proofs.Lays.n144 δ afQ:=by constructor<;>first|kernel_rfl|(intros;kernel_rfl)
open Go.RowKit Go.Lib in
theorem Rc(a sub:BA)(c:Int)(b:Z)(f:a.size<4294967281)(e:b.cell? (U 0 0 A)=N (I E c)):
 ν δ 210 #[H a,H sub] b λd g=>d=ξ (ι (Lib.contains a.data.toList sub.data.toList))/\g=b:=Any.strings_Contains afP a sub c b f e
def afS:Go.Shelf.Ren:=⟨fun|145=>211|220=>278|219=>335|217=>276|225=>209|224=>208|267=>371|266=>334|314=>392|a=>a,fun|9=>9|4=>4|59=>286|3=>3|5=>5|46=>39|146=>452|51=>169|a=>a,fun|1=>0|a=>a⟩
theorem afR:Go.Proofs.Lays.n145 δ afS:=by constructor<;>first|kernel_rfl|(intros;kernel_rfl)
open Go.RowKit Go.Lib in
theorem Re(a b:BA)(d:Int)(c:Z)(g:a.size<4294967281)(f:c.cell? (U 0 0 A)=N (I E d)):
 ν δ 211 #[H a,H b] c λe i=>e=ξ (σ #[H ⟨(Lib.cut a.data.toList b.data.toList).1.toArray⟩,H ⟨(Lib.cut a.data.toList b.data.toList).2.1.toArray⟩,ι (Lib.cut a.data.toList b.data.toList).2.2])/\∃h,i=c.drewN h:=Any.strings_Cut afR a b d c g f
def af9:Go.Shelf.Ren:=⟨fun|190=>52|125=>79|258=>81|128=>128|129=>129|302=>130|303=>131|304=>132|305=>133|306=>134|307=>135|308=>136|309=>137|310=>138|333=>198|329=>194|330=>195|334=>199|335=>200|336=>201|344=>273|a=>a,fun|31=>26|9=>9|3=>3|46=>39|0=>0|51=>169|53=>32|4=>4|183=>203|182=>202|131=>174|5=>5|218=>268|222=>272|228=>336|229=>337|a=>a,fun|a=>a⟩
theorem af8:Go.Proofs.Lays.n190 δ af9:=by constructor<;>first|kernel_rfl|(intros;kernel_rfl)
open Go.Sort Go.RowKit in
theorem Rb(blk c d:Nat)(a:List (List UInt8))(b:Z)(f:Holds encStr b blk c a.toArray)(hblk:blk<b.heap.size)(g:a.length<4611686018427387904):
 ν δ 52 #[V (N (U blk c A)) a.length d] b λe j=>e=ξ (σ #[])/\∃h i,j=grow (putRow encStr (Sort.ahead b h) blk c (a.mergeSort λk l=>decide (k<=l)).toArray) i:=Any.slices_Sort_string af8 blk c d a b f hblk g
def afW:Go.Shelf.Ren:=⟨fun|152=>147|137=>206|119=>207|224=>208|225=>209|217=>276|266=>334|a=>a,fun|9=>9|21=>21|3=>3|4=>4|5=>5|0=>0|46=>39|a=>a,fun|a=>a⟩
theorem afV:Go.Proofs.Lays.n152 δ afW:=by constructor<;>first|kernel_rfl|(intros;kernel_rfl)
open Go.RowKit Go.Lib in
theorem agI(b:BA)(a:Int)(c:Z)(e:0<=a)(f:a<128):
 ν δ 147 #[H b,I .i32 a] c λd g=>d=ξ (I E (tG b.data.toList a.toNat.toUInt8))/\g=c:=Any.strings_IndexRune_ascii afV b a c e f
def afU:Go.Shelf.Ren:=⟨fun|151=>85|152=>147|137=>206|119=>207|224=>208|225=>209|217=>276|266=>334|a=>a,fun|9=>9|21=>21|4=>4|3=>3|5=>5|0=>0|46=>39|a=>a,fun|a=>a⟩
theorem afT:Go.Proofs.Lays.n151 δ afU:=by constructor<;>first|kernel_rfl|(intros;kernel_rfl)
open Go.RowKit Go.Lib in
theorem agE(b:BA)(a:Int)(c:Z)(e:0<=a)(f:a<128):
 ν δ 85 #[H b,I .i32 a] c λd g=>d=ξ (ι (decide (0<=tG b.data.toList a.toNat.toUInt8)))/\g=c:=Any.strings_ContainsRune_ascii afT b a c e f
def agf:Go.Shelf.Ren:=⟨fun|226=>282|a=>a,fun|3=>3|4=>4|a=>a,fun|a=>a⟩
theorem agd:Go.Proofs.Lays.n226 δ agf:=by constructor<;>first|kernel_rfl|(intros;kernel_rfl)
open Go.RowKit Go.Lib in
theorem agJ(a:Int)(b:Z):
 ν δ 282 #[I E a] b λc d=>c=ξ (ι (decide (8<a)))/\d=b:=Any.strings_shouldUseASCIISet agd a b
def afY:Go.Shelf.Ren:=⟨fun|153=>220|152=>147|226=>282|227=>141|228=>202|137=>206|119=>207|224=>208|225=>209|217=>276|266=>334|a=>a,fun|9=>9|3=>3|4=>4|5=>5|21=>21|117=>219|116=>218|0=>0|46=>39|124=>222|a=>a,fun|a=>a⟩
theorem afX:Go.Proofs.Lays.n153 δ afY:=by constructor<;>first|kernel_rfl|(intros;kernel_rfl)
open Go.RowKit Go.Lib in
theorem agG(j:∀a,(zeroValue 218).run δ a= .ok (Μ (Aj 256 (ι false))) a)(b chars:BA)(a:Z)(e:2<=chars.size)(f:8<b.size)(i:b.size<4294967281)(h:chars.size<4294967281)(g:∀(k:Nat) c,chars.data.toList[k]? =N c->c.toNat<128):
 ν δ 220 #[H b,H chars] a λd l=>d=ξ (I E (Lib.indexAny b.data.toList chars.data.toList))/\l=((a.alloc (ζ (Lib.setCells chars.data.toList) 218)).alloc (ζ (Lib.setCells chars.data.toList) 218)):=Any.strings_IndexAny_long afX j (by kernel_rfl) b chars a e f i h g
def afK:Go.Shelf.Ren:=⟨fun|110=>73|109=>117|a=>a,fun|31=>26|9=>9|4=>4|3=>3|0=>0|a=>a,fun|a=>a⟩
theorem afJ:Go.Proofs.Lays.n110 δ afK:=by constructor<;>first|kernel_rfl|(intros;kernel_rfl)
open Go.Lib in
theorem agC(d f a h:Nat)(b:List BA)(g:BA)(c:Z)(l:a<=b.length)(j:a<=9223372036854775807)(k:∀e,e<b.length->c.cell? ⟨d,f+e,A⟩=N (H (b.getD e kj))):
 ν δ 73 #[V (N (U d f A)) a h,H g] c λi m=>i=ξ (ι (Lib.containsS (b.take a) g))/\m=c:=Any.slices_Contains_string afJ d f a h b g c l j k
def ago:Go.Shelf.Ren:=⟨fun|16=>51|a=>a,fun|24=>26|9=>9|4=>4|a=>a,fun|a=>a⟩
theorem agn:Go.Proofs.Lays2.n16 δ ago:=by constructor<;>first|kernel_rfl|(intros;kernel_rfl)
open Go.RowKit Go.Lib in
theorem agz(d f a h:Nat)(c:List BA)(b:Z)(m:a<=c.length)(k:a*16<=140737488355328)(l:∀e,e<c.length->b.cell? ⟨d,f+e,A⟩=N (H (c.getD e kj))):
 ν δ 51 #[V (N (U d f A)) a h] b λj i=>∃g,j=ξ g/\i.ownsRow b.heap.size 9 1 g a ((c.take a).map (H))/\g≠V A 0 0/\bH b.heap.size b i:=Any.slices_Clone_string agn d f a h c b m k l
def agb:Go.Shelf.Ren:=⟨fun|194=>56|a=>a,fun|31=>26|9=>9|3=>3|4=>4|0=>0|a=>a,fun|a=>a⟩
theorem aga:Go.Proofs.Lays.n194 δ agb:=by constructor<;>first|kernel_rfl|(intros;kernel_rfl)
open Go.RowKit Go.Lib Go.Sort in
theorem agA(blk b c:Nat)(a:Array (List UInt8))(d:Z)(f:Holds encStr d blk b a)(h:a.size<=9223372036854775807)(g:a.size<=c):
 ν δ 56 #[V (N (U blk b A)) a.size c] d λe j=>e=ξ (V (N (U blk b A)) (compactUpTo a a.size).length c)/\∃i,j=putRow encStr (Sort.ahead d i) blk b (compactUpTo a a.size++List.replicate (a.size-(compactUpTo a a.size).length) []).toArray:=Any.slices_Compact_string_arr aga blk b c a d f h g
def agt:Go.Shelf.Ren:=⟨fun|31=>73|29=>117|a=>a,fun|22=>26|23=>9|4=>4|3=>3|0=>0|a=>a,fun|a=>a⟩
theorem agr:Go.Proofs.SlLaysE.n31 δ agt:=by constructor<;>first|kernel_rfl|exact jg ⟨by decide+kernel,by kernel_rfl⟩|(intros;kernel_rfl)
open Go.Lib in
theorem agB{a:Type}[Inhabited a](d:a->ε)(g:a->a->Bool)(o:EqlAt δ 9 d g)(f i b k:Nat)(c:List a)(j:a)(e:Z)(p:b<=c.length)(m:b<=9223372036854775807)(n:∀h,h<c.length->e.cell? ⟨f,i+h,A⟩=N (d c[h]!)):
 ν δ 73 #[V (N (U f i A)) b k,d j] e λl q=>l=ξ (ι ((c.take b).any λr=>g j r))/\q=e:=AnyE.slices_Contains agr d g o f i b k c j e p m n
def agq:Go.Shelf.Ren:=⟨fun|41=>51|a=>a,fun|22=>26|23=>9|4=>4|a=>a,fun|a=>a⟩
theorem agp:Go.Proofs.SlLaysE0.n41 δ agq:=by constructor<;>first|kernel_rfl|exact jg ⟨by decide+kernel,by kernel_rfl⟩|(intros;kernel_rfl)
open Go.RowKit Go.Lib in
theorem agy(d:TypeInfo)(j:ε)(b bytes:Nat)(r:prog.info? 9=N d)(w:d.zero=N j)(x:d.size=b)(y:d.bytes=bytes)(z:j.cells.size=b)(u:0<b)(z23:∀a,(Go.sizeOf 9).run δ a= .ok b a)(g h c k:Nat)(e:List ε)(a:Z)(s:e.length=c*b)(t:c<=Χ)(p:c*bytes<=140737488355328)(q:∀l f,e[l]? =N f->a.cell? ⟨g,h+l,A⟩=N f)(o:∀f∈e,f.oneCell'=true):
 ν δ 51 #[V (N (U g h A)) c k] a λn m=>∃i,n=ξ i/\m.ownsRow a.heap.size 9 b i c e/\i≠V A 0 0/\bH a.heap.size a m:=AnyE.slices_Clone agp d j b bytes r w x y z u z23 g h c k e a s t p q o
end
theorem DT:prog.underlying 283=N (.pointer 285):=by kernel_rfl
theorem Ri:prog.underlying 386=N .unsafePointer:=by kernel_rfl
theorem Ra:(prog.info? 285).map (·.size)=N 2:=by kernel_rfl
theorem agu:liesAt δ prog.depth 285 (2/prog.cellsOf 285) 0 285 1=true:=by kernel_rfl
theorem Mf(b:Nat)(a:Z)(f:a.cell? (U b 0 A)=N (π (N (U b 0 A)))):ν δ 279 #[π (N (U b 0 A))] a λc e=>c=ξ (σ #[])/\e=a:=by
 obtain⟨g,d,_⟩:=J7.1 Ra;go_enter func279,ntmps279;go_wp2;rw[Lib.run_neq_ptr_same a _ DT d];go_wp2;go_end0
 exact⟨rfl,rfl⟩
theorem Me(a:Nat)(b:Z)(h:b.cell? (U a 0 A)=N (π A))(d:b.shape? a=N (285,2))(i:b.frozen? (U a 0 A)=false):ν δ 279 #[π (N (U a 0 A))] b λe g=>e=ξ (σ #[])/\g=b.setCell (U a 0 A) (π (N (U a 0 A))):=by
 obtain⟨j,c,f⟩:=J7.1 Ra;go_enter func279,ntmps279;go_wp2;rw[Lib.run_to_unsafe b ⟨a,0,A⟩ DT Ri c (by rw[f];decide) d (Nat.zero_lt_succ 1)];simp only[Az];rw[JL];go_wp2;rw[run_callFunc_extern func336 (by kernel_rfl) (by kernel_rfl) (by kernel_rfl) (e:=Extern.AbiNoEscape.same) (by kernel_rfl)];rw[Lib.run_noEscape];simp only[Az];rw[JL];go_wp2;rw[Lib.run_from_unsafe b ⟨a,0,A⟩ Ri DT c d agu];simp only[Az];rw[JL];go_wp2;try rw[Lib.run_neq_ptr_same _ _ DT c]
 try go_wp2
 go_end0
 exact⟨rfl,rfl⟩
abbrev Kc:=Lib.BuilderAt 285 5
theorem WC(d b:Nat)(g:List ε)(c:Z)(a:Lib.IsBuilder 285 5 d b g c):ν δ 279 #[π (N (U b 0 A))] c λf e=>f=ξ (σ #[])/\(Kc d b (π (N (U b 0 A))) g e/\bH d c e):=by
 obtain a|a:=a
 .refine(Me b c a.cell0 a.shape a.frozen0).mono ?_;rintro f e ⟨rfl,rfl⟩;exact⟨rfl,a.used _,(iz d c).setCell (p:=(U b 0 A)) a.1 _⟩
 refine(Mf b c a.cell0).mono ?_;rintro f e ⟨rfl,rfl⟩;exact⟨rfl,a,iz d _⟩
theorem infoByte:(prog.info? 5).map (λa=>(a.zero,a.size,a.bytes))=N (N (I bh 0),1,1):=by kernel_rfl
theorem RU(b a:Nat)(d:List ε)(c:BA)(h:Z)(t:Lib.IsBuilder 285 5 b a d h)(W:d.length+c.size<=140737488355328)(T:b<=h.heap.size):ν δ 212 #[π (N (U a 0 A)),H c] h λe s=>e=ξ (σ #[I E c.size,.nilIface])/\(Kc b a (π (N (U a 0 A))) (d++Ao c) s/\bH b h s):=by
 obtain⟨G,w,B,C,F⟩:=info_parts infoByte;go_enter func212,ntmps212;go_wp2_with (go_at_call 279;refine(WC b a d _ t).mono ?_);rintro e i ⟨rfl,u,l⟩;obtain⟨n,v,g,p,z⟩:=u;have L:i.cell? (U a 0 A)=N (π (N (U a 0 A))):=by rw[JH g];rfl
 have M:i.cell? (U a 1 A)=N v:=by rw[JH g];rfl
 go_wp2_with (at_builtin;refine Lib.wpList_append_own_string _ rfl _ _ 113 9 rfl b 5 G iZ lj w B C F _ _ _ rfl p c rfl ?c3 ?c4 ?c5 ?_);case c3=>unfold Χ;omega
 case c4=>omega
 case c5=>have:=l.size;omega
 intro K j q o _
 have y:a<i.heap.size:=by
  obtain h'|h':=fU a i.heap.size
  .exact h'
  simp[ll h'] at g
 have f:j.heap[a]? =N (ζ #[π (N (U a 0 A)),v] 285 (0,0)):=by rw[o.block a y (λe=>z e.symm)];exact g
 have P:j.cell? (U a 0 A)=N (π (N (U a 0 A))):=by rw[JH f];rfl
 have Q:j.cell? (U a 1 A)=N v:=by rw[JH f];rfl
 have R:j.frozen? (U a 1 A)=false:=Lib.frozen_of_heap f 1
 obtain⟨m,r,k,rfl⟩:∃m r k,K=V m r k:=by
  obtain⟨hv,_⟩|⟨S,k,O,hv,_⟩:=q.2
  .exact⟨_,_,_,hv⟩
  .exact⟨_,_,_,hv⟩
 go_wp2;go_ret2;refine⟨rfl,?_,?_⟩
 .exact Lib.BuilderAt.put (T:=285) (e:=5) n f (bs':=d++Ao c) (by simpa[Lib.strCells_length] using q) (by decide)
 exact(l.grown o (by have:=l.size;omega) (λJ x=>(p.lt J x).1)).setCell (p:=(U a 1 A)) n _
structure aT (w:Z):Prop where
 len:∃m,w.cell? (U 0 0 A)=N (I E m)
 tabs:Lib.Utf8Tabs 1 2 w
 PW:An δ w "internal/strconv.uint64pow10" .u64 Eo
 size:6<=w.heap.size
theorem Ny:prog.globalNamed "internal/strconv.uint64pow10" =N 3:=by kernel_rfl
theorem aT.keeps{w f:Z}{F:Bs}(b:aT w)(k:Y w f F)(hF:∀a,a<6->¬F a):aT f:=by
 have m:=b.size;have d:∀a,a<6->f.heap[a]? =w.heap[a]? :=λa d=>k.block a (by omega) (hF a d);have e:∀a g,a<6->f.cell? (U a g A)=w.cell? (U a g A):=λa g b=>by simp[fN,d a b]
 refine⟨?_,⟨λh l=> ?_,λj i=> ?_⟩,?_,aJ m k.size⟩
 .obtain⟨n,b⟩:=b.len;exact⟨n,(e 0 0 (by omega)).trans b⟩
 .exact(e 1 h (by omega)).trans (b.tabs.1 h l)
 .exact⟨(e 2 _ (by omega)).trans (b.tabs.2 j i).1,(e 2 _ (by omega)).trans (b.tabs.2 j i).2⟩
 have c:=b.PW;unfold An World.var? at c⊢;rw[Ny] at c⊢;simp only[Option.bind_some] at c⊢;rw[d 3 (by omega)];exact c
variable{w n G:Z}{x i t B:ε}{y k d M:Nat}{m:Int}{j:Bs}{a:List ε}{b:Option ay}{f:Bool}{p L:BA}{q:Array ε}{r:List (Nat×υ)}{u:TypeId}{O:List aG}{Q:El}{R:Int ⊕(Bd×Option Ev)}{X:aI}
theorem aT.still{w':Z}(a:aT w)(b:Y w w' γ):aT w':=a.keeps b λ_ _ a=>a
theorem uj(a:BA)(B:a.size<=9223372036854775807)(c:Z)(z:aT c):ν δ 149 #[H a] c λd r=>d=ξ (I E (gD a))/\Y c r γ:=by
 have hv:ν δ 215 #[H a] c λd r=>d=ξ (ι (validD a.data.toList))/\bH c.heap.size c r:=Any.utf8_ValidString Q' a c B z.tabs;have l:=K hv;clear hv;cases i:validD a.data.toList
 .rw[i] at l;have f:η (gD a=2):=K (by simp[gD,uV,i]);clear i;go_enter func149,ntmps149;go_wp2_with fail;refine l.out.mono ?_;rintro d k ⟨rfl,p⟩;go_wp2;all_goals(go_ret;exact⟨jT (by rw[f.out]),Y.of_below p _⟩)
 rw[i] at l;have f:η (gD a=if oM a a.size 0 then 0 else 2):=K (by simp[gD,uV,i]);clear i;go_enter func149,ntmps149;go_wp2_with fail;refine l.out.mono ?_;rintro d k ⟨rfl,p⟩;have x:=Y.of_below p γ;go_wp2_with fail;go_loopg [4] a.size (λe _ G=>∃b:Nat,G=k.iter a b/\η (oM a a.size 0=oM a e b)/\a.size<=b+e)
 case atStart=>exact⟨0,rfl,K rfl,by omega⟩
 obtain⟨b,rfl,g,J⟩:=hrel;have kk:∀t,Y c (k.iter a t) γ:=λt=>x.alloc _;by_cases m:b<a.size
 .cases gk with
  |zero=>omega
  |succ e=>
   have s:=λq=>run_next_any (P:=δ) k a b q m;have C:=Lib.width_pos a b;have HS:η (oM a (e+1) b=(wN (km a b).1&&oM a e (b+(km a b).2))):=K (by simp[oM,m]);generalize km a b=y at*;obtain⟨o,u⟩:=y;simp only at s C HS;cases h:wN o
   .have n:η (gD a=2):=K (by rw[f.out,g.out,HS.out,h];rfl);have j:=K (Ph o);rw[h] at j;clear h f g HS;go_wp2_with fail;refine(j.out _).mono ?_;rintro d F ⟨rfl,rfl⟩;go_wp2;all_goals(go_ret;exact⟨jT (by rw[n.out]),kk _⟩)
   have w:η (oM a a.size 0=oM a e (b+u)):=K (by rw[g.out,HS.out,h];rfl);have j:=K (Ph o);rw[h] at j;clear h g HS;go_wp2_with fail;refine(j.out _).mono ?_;rintro d F ⟨rfl,rfl⟩;go_wp2;go_roundg e
   case measure=>omega
   case rel=>exact⟨b+u,rfl,w,by omega⟩
 have s:=λq=>run_next_end (P:=δ) k a b q m;have n:η (gD a=0):=K (by rw[f.out,g.out];cases gk<;>simp[oM,m]);clear f g;go_wp2;all_goals(go_ret;exact⟨jT (by rw[n.out]),kk _⟩)
theorem lf(a:Bt):((D a.toArray):BA).size=a.length:=rfl
abbrev qG:=Lib.IsBuilder 285 5
theorem qG.stay{w':Z}(b:qG y k a w)(c:Y w w' γ):qG y k a w':=by
 obtain⟨d,v,e,f,g⟩|⟨d,v,e,f,g⟩:=b
 .exact .inl ⟨d,v,c.row e id,aD f c (λ_ _ b=>b),g⟩
 exact .inr ⟨d,v,c.row e id,aD f c (λ_ _ b=>b),g⟩
def A7(e:Z)(a b:Bt)(c:aI)(d:Z):Prop:=c=ξ (σ #[H ⟨(cut a b).1.toArray⟩,H ⟨(cut a b).2.1.toArray⟩,ι (cut a b).2.2])/\Y e d γ
theorem BV(b c:BA)(a:Z)(d:aT a)(f:b.size<4294967281):ν δ 211 #[H b,H c] a (A7 a b.data.toList c.data.toList):=by obtain⟨g,e⟩:=d.len;refine(Re b c g a f e).mono ?_;rintro i j ⟨rfl,h,rfl⟩;exact⟨rfl,(Y.refl a γ).drewN h⟩
theorem rV(a b:Bt):(cut a b).1.length+(cut a b).2.1.length+(if(cut a b).2.2 then b.length else 0)<=a.length:=by
 unfold cut;split
 .rename_i c;have:=index_room a b c;simp;omega
 simp
theorem abi(c b:Bt)(a:oF c=N b):b.length=1:=by
 unfold oF at a
 repeat' split at a
 all_goals first|(injection a with a;subst a;rfl)|cases a
def ny(d:Z)(a:Bt)(b:aI)(c:Z):Prop:=b=ξ (σ #[H ⟨(gG a).1.toArray⟩,I E (gG a).2])/\Y d c γ
theorem ny.mk{a:Bt}(b:η (gG a=(p.data.toList,m)))(c:Y w n γ):ny w a (ξ (σ #[H p,I E m])) n:=by unfold ny;rw[b.out];exact⟨rfl,c⟩
theorem Lk(a:BA)(a9:a.size<=1000000000)(P:Z)(n:aT P):ν δ 148 #[H a] P (ny P a.data.toList):=by
 have m:=K (uj a (by omega) P n);have bi:=K (rj a);cases j:uV a
 .have y:gD a=2:=by simp[gD,j]
  rw[y] at m;have h:η (gG a.data.toList=(((D #[]):BA).data.toList,2)):=K (by simp[gG,j]);clear j y;go_enter func148,ntmps148;go_wp2_with fail;refine m.out.mono ?_;rintro e l ⟨rfl,g⟩;go_wp2;all_goals(go_ret2;exact ny.mk h g)
 have y:gD a=0:=by simp[gD,j]
 rw[y] at m;obtain⟨M,q⟩:=n.len;have W:=K q;clear q y;cases p:contains a.data.toList [60]
 .have h:η (gG a.data.toList=C' (nS (a.data.toList.length+1) [] a.data.toList)):=K (by simp[gG,j,p]);have G:=K p;clear j p;go_enter func148,ntmps148;go_wp2_with fail;refine m.out.mono ?_;rintro e l ⟨rfl,g⟩;have F:η (ν δ 210 #[H a,H (D #[60])] l λe T=>e=ξ (ι false)/\T=l):=K (by obtain⟨M,q⟩:=(n.still g).len;have:=Rc a ⟨#[60]⟩ M l (by omega) q;rw[show((D #[60]):BA).data.toList=[60] from rfl,G.out] at this;exact this);clear m W;go_wp2_with fail;refine F.out.mono ?_;rintro e d ⟨rfl,rfl⟩;clear F G;go_wp2_with fail;have bd:=n.still g;have aw:qG d.heap.size d.heap.size (mT []) (d.alloc (ζ #[π A,V A 0 0] 285)):=fresh_isBuilder 285 5 d;go_loopg [0,6,7,8,9,10,11,12,13] (a.data.toList.length+1) (λi bb _ _ _ _ _ _ _ _ an=>∃(c:BA) (b:Bt),bb=H c/\η (nS (a.data.toList.length+1) [] a.data.toList=nS i b c.data.toList)/\c.data.toList.length<i/\c.size<=1000000000/\b.length+c.size<=a.size/\qG d.heap.size d.heap.size (mT b) an/\bH d.heap.size d an)
  case atStart=>exact⟨a,[],rfl,K rfl,by omega,a9,by simp,aw,(iz _ _).alloc (Ο _) _⟩
  obtain⟨c,b,rfl,o,bf,bk,be,a5,L⟩:=hrel;have ap:=Y.of_below L γ;have au:=g.trans ap Η;cases gk with
  |zero=>omega
  |succ i=>
   have u:=K (BV c ⟨#[38]⟩ wr (n.still au) (by omega));have Q:=rV c.data.toList [38];have HS:η (nS (i+1) b c.data.toList=if(cut c.data.toList [38]).2.2 then(match oF (cut (cut c.data.toList [38]).2.1 [59]).1 with|some k=>if(cut (cut c.data.toList [38]).2.1 [59]).2.2 then nS i (b++(cut c.data.toList [38]).1++k) (cut (cut c.data.toList [38]).2.1 [59]).2.1 else A|none=>A) else N (b++(cut c.data.toList [38]).1)):=K rfl;have bn:=rj c;go_wp2_with fail;refine u.out.mono ?_;rintro e bc ⟨rfl,S⟩;clear u;generalize cut c.data.toList [38]=a2 at*;obtain⟨f,C,more⟩:=a2;simp only at HS Q;have ab:=qG.stay a5 S;have w:=K (RU _ _ (mT b) ⟨f.toArray⟩ bc ab (by rw[Lib.byteCells_length];simp[Ak];omega) (aJ L.size S.size));go_wp2_with fail;refine w.out.mono ?_;rintro e r ⟨rfl,ac,a6⟩;clear w ab
   have ad:qG d.heap.size d.heap.size (mT (b++f)) r:= .inr (by
    have:mT (b++f)=mT b++strCells ⟨f.toArray⟩:=by simp[mT,strCells]
    rw[this];exact ac)
   clear ac;have z:bH d.heap.size d r:=(L.trans (S.below.mono L.size)).trans a6;have aq:=g.trans (Y.of_below z γ) Η;cases more
   .have t:η (gG a.data.toList=((⟨(b++f).toArray⟩:BA).data.toList,0)):=K (by rw[h.out,o.out,HS.out];simp[C']);have av:=K (QQ _ _ (b++f) r ad z.size);clear h o HS;go_wp2_with fail;refine av.out.mono ?_;rintro e s ⟨rfl,a7⟩;have J:=g.trans (Y.of_below (z.trans a7) γ) Η;go_wp2;all_goals(go_ret2;exact ny.mk t J)
   have u:η (ν δ 211 #[H (D C.toArray),H (D #[59])] r (A7 r C [59])):=K (BV ⟨C.toArray⟩ ⟨#[59]⟩ r (n.still aq) (by simp[Ak];simp at Q;omega));have al:=rV C [59];go_wp2_with fail;refine u.out.mono ?_;rintro e s ⟨rfl,am⟩;clear u;generalize cut C [59]=a3 at*;obtain⟨B,behind,ended⟩:=a3;simp only at HS al;have X:η (ν δ 214 #[H (D B.toArray)] s (Ld s (oF B))):=K (abe ⟨B.toArray⟩ s);go_wp2_with fail;refine X.out.mono ?_;rintro e br ⟨rfl,rfl⟩;clear X;have O:=abi B;generalize oF B=ba at*;have a0:=qG.stay ad am;have R:bH d.heap.size d s:=z.trans (am.below.mono z.size);have J:=g.trans (Y.of_below R γ) Η;have x:η (nS (i+1) b c.data.toList=A)->η (gG a.data.toList=(((D #[]):BA).data.toList,3)):=λa4=>K (by rw[h.out,o.out,a4.out];rfl);cases ba with
   |none=>
    have t:=x (K (by rw[HS.out];rfl));clear x HS h o O;cases ended
    all_goals
     go_wp2;all_goals(go_ret2;exact ny.mk t J)
   |some k=>
    cases ended
    .have t:=x (K (by rw[HS.out];rfl));clear x HS h o O;go_wp2;all_goals(go_ret2;exact ny.mk t J)
    have bq:=O k rfl;have ao:η (nS (a.data.toList.length+1) [] a.data.toList=nS i (b++f++k) behind):=K (by rw[o.out,HS.out];rfl);simp at Q al;have w:=K (RU _ _ (mT (b++f)) ⟨k.toArray⟩ s a0 (by rw[Lib.byteCells_length];simp[Ak];omega) R.size);clear x HS O;simp only[Option.getD_some,Option.isSome_some];go_wp2_with fail;refine w.out.mono ?_;rintro e bs ⟨rfl,a1,a8⟩;clear w;go_wp2;go_roundg i
    case measure=>omega
    case rel=>exact⟨⟨behind.toArray⟩,b++f++k,rfl,ao,by show behind.length<i;omega,by rw[lf];omega,by rw[lf];simp only[cL];omega,.inr (by
     have:mT (b++f++k)=mT (b++f)++strCells ⟨k.toArray⟩:=by simp[mT,strCells]
     rw[this];exact a1),R.trans a8⟩
 have h:η (gG a.data.toList=(((D #[]):BA).data.toList,3)):=K (by simp[gG,j,p]);have G:=K p;clear j p;go_enter func148,ntmps148;go_wp2_with fail;refine m.out.mono ?_;rintro e l ⟨rfl,g⟩;have F:η (ν δ 210 #[H a,H (D #[60])] l λe T=>e=ξ (ι true)/\T=l):=K (by obtain⟨M,q⟩:=(n.still g).len;have:=Rc a ⟨#[60]⟩ M l (by omega) q;rw[show((D #[60]):BA).data.toList=[60] from rfl,G.out] at this;exact this);clear m W;go_wp2_with fail;refine F.out.mono ?_;rintro e d ⟨rfl,rfl⟩;go_wp2;all_goals(go_ret2;exact ny.mk h g)
def bL(w:Z)(S:Bs)(z:Nat)(v:ε)(n:Nat)(xs:List ε):Prop:=
 xs.length=n*z/\∃c b,v=V c n b/\n<=b/\b<=Χ/\(c=A->n=0/\b=0)/\∀a,c=N a->a.spot=A/\S a.block/\a.block<w.heap.size/\∀d e,xs[d]? =N e->w.cell? ⟨a.block,a.off+d,A⟩=N e
section
variable {w w':Z} {S S':Bs} {z:Nat} {v:ε} {n:Nat} {xs:List ε}
theorem bL.stay(h:bL w S z v n xs)(u:w.heap.size<=w'.heap.size)(p:∀a,S a->a<w.heap.size->w'.heap[a]? =w.heap[a]?):bL w' S z v n xs:=by obtain⟨j,s,g,rfl,i,m,k,l⟩:=h;refine⟨j,s,g,rfl,i,m,k,λc o=> ?_⟩;obtain⟨d,b,e,f⟩:=l c o;exact⟨d,b,by omega,λr t q=>by have:=f r t q;unfold fN at this⊢;rw[p _ b e];exact this⟩
theorem bL.uX(a:bL w S z v n xs)(e:∀c,S c->w'.heap[c]? =w.heap[c]?):bL w' S z v n xs:=by
 obtain⟨k,s,i,rfl,j,o,l,m⟩:=a;refine⟨k,s,i,rfl,j,o,l,λd p=> ?_⟩;obtain⟨f,b,g,h⟩:=m d p;refine⟨f,b,?_,λr t q=>by have:=h r t q;unfold fN at this⊢;rw[e _ b];exact this⟩;obtain a|a:=fU d.block w'.heap.size
 .exact a
 have:=e _ b;rw[ll a,ql g] at this;cases this
theorem bL.mono(f:bL w S z v n xs)(k:∀d,S d->d<w.heap.size->S' d):bL w S' z v n xs:=by obtain⟨h,l,e,rfl,g,j,i,b⟩:=f;exact⟨h,l,e,rfl,g,j,i,λa c=>⟨(b a c).1,k _ (b a c).2.1 (b a c).2.2.1,(b a c).2.2⟩⟩
theorem bL.nil(w:Z)(S:Bs)(z:Nat):bL w S z (V A 0 0) 0 []:=⟨by simp,A,0,rfl,Ο _,ai _,λ_=>⟨rfl,rfl⟩,nofun⟩
theorem bL.form(d:bL w S z v n xs):∃b a,v=V b n a:=by obtain⟨_,b,a,c,_⟩:=d;exact⟨b,a,c⟩
theorem bL.small(a:bL w S z v n xs):n<=Χ:=by obtain⟨_,f,b,c,d,e,_⟩:=a;omega
theorem bL.dw{B:Nat}{g:TypeId}(e:w.ownsRow B g z v n xs)(h:∀f,v.ownBlock=N f->S f):bL w S z v n xs:=by
 refine⟨e.1,?_⟩;obtain⟨rfl,rfl⟩|⟨d,m,o,rfl,p,c,j,i,q,k⟩:=e.2
 .exact⟨A,0,rfl,Ο _,ai _,λ_=>⟨rfl,rfl⟩,nofun⟩
 refine⟨_,_,rfl,j,i,nofun,λl b=> ?_⟩;injection b with b;subst b;refine⟨rfl,h d rfl,?_,λr s a=> ?_⟩
 .obtain h1|h1:=fU d w.heap.size
  .exact h1
  rw[ll h1] at c;cases c
 rw[<-k,kD] at a;split at a
 .simpa[fN,c] using a
 cases a
theorem bL.cell(k:bL w S z v n xs){r:Nat}(t:r<n):∃a c,v.ownBlock=N a/\S a/\a<w.heap.size/\(∃b,v=V (N (U a c A)) n b/\n<=b/\b<=Χ)/\∀f g,xs[f]? =N g->w.cell? ⟨a,c+f,A⟩=N g:=by
 obtain⟨s,p,b,rfl,l,q,m,o⟩:=k;cases p with
 |none=>have:=(m rfl).1;omega
 |some d=>obtain⟨e,h,i,j⟩:=o d rfl;obtain⟨a,c,u⟩:=d;simp only at e;subst e;exact⟨a,c,rfl,h,i,⟨b,rfl,l,q⟩,j⟩
end
theorem Lx{w:Z}{S:Bs}(f:Nat)(c a:TypeId){z:ε}{b bytes:Nat}(q:prog.underlying c=N (.slice a))(M:(prog.info? a).map (λd=>(d.zero,d.size,d.bytes))=N (N z,b,bytes))(R:z.cells.size=b)(Q:0<b){v e:ε}{n h:Nat}{xs j:List ε}(m:w.ownsRow f a b v n xs)(P:bL w S b e h j)(l:∀e∈j,e.oneCell'=true)(G:n+h<=Χ)(L:(n+h)*bytes<=140737488355328)(J:f<=w.heap.size):∃i w',(gJ #[c,c] c #[v,e]).run δ w= .ok i w'/\w'.ownsRow f a b i (n+h) (xs++j)/\Y w w' (λg=>v.ownBlock=N g)/\∀g,i.ownBlock=N g->v.ownBlock=N g\/w.heap.size<=g:=by
 obtain⟨d,s,W,X,ab⟩:=info_parts M;obtain⟨t,T,x,rfl,ap,aq,ac,ad⟩:=P;cases T with
 |some k=>
  obtain⟨o,al,am,u⟩:=ad k rfl
  obtain⟨i,w',l,B,C,F⟩:=yG f c c a d z b bytes q s W X ab R Q v n xs m k h x j t (λr e O=>by
   have:=u r e O;unfold Addr.add;obtain⟨an,ao,au⟩:=k;simp only at o this⊢;subst o;by_cases p:r=0
   .subst p;simpa using this
   .simpa[p] using this) l G L J
  exact⟨i,w',l,B,Y.jy C λ_ a=>a,F⟩
 |none=>obtain⟨rfl,rfl⟩:=ac rfl;obtain rfl:j=[]:=List.eq_nil_of_length_eq_zero (by simpa using t);exact⟨v,w,run_append_owned_none (P:=δ) (w:=w) f c c a d b q s v n xs m,by simpa using m,Y.refl _ _,λ_ y=> .inl y⟩
abbrev At:=List (Bt×Bt)
def nC(b:At):List ε:=b.flatMap λa=>[H ⟨a.1.toArray⟩,H ⟨a.2.toArray⟩]
theorem yI(b:At)(a:Nat)(d:Bt×Bt)(c:b[a]? =N d):(nC b)[a*2]? =N (H ⟨d.1.toArray⟩)/\(nC b)[a*2+1]? =N (H ⟨d.2.toArray⟩):=by
 induction b generalizing a with
 |nil=>simp at c
 |cons f b e=>
  cases a with
  |zero=>simp at c;subst c;exact⟨rfl,rfl⟩
  |succ a=>have:=e a (by simpa using c);rw[show(a+1)*2=a*2+2 by omega];simpa[nC] using this
theorem Vo(d:At):∀c∈nC d,c.oneCell'=true:=by intro c b;simp only[nC,J6] at b;obtain⟨e,_,a⟩:=b;simp at a;rcases a with rfl|rfl<;>rfl
def aU(w:Z)(S:Bs)(v:ε)(a:At):Prop:=bL w S 2 v a.length (nC a)
abbrev TV:=aG×ε
def mO(b:List TV):List ε:=b.flatMap λa=>[I E a.1.Θ,H ⟨a.1.name.toArray⟩,a.2,H ⟨a.1.Β.toArray⟩]
theorem aeJ(b:List TV)(a:Nat)(c:TV)(d:b[a]? =N c):(mO b)[a*4]? =N (I E c.1.Θ)/\(mO b)[a*4+1]? =N (H ⟨c.1.name.toArray⟩)/\(mO b)[a*4+2]? =N c.2/\(mO b)[a*4+3]? =N (H ⟨c.1.Β.toArray⟩):=by
 induction b generalizing a with
 |nil=>simp at d
 |cons f g e=>
  cases a with
  |zero=>simp at d;subst d;exact⟨rfl,rfl,rfl,rfl⟩
  |succ a=>have:=e a (by simpa using d);rw[show(a+1)*4=a*4+4 by omega];simpa[mO] using this
def gQ(w:Z)(S:Bs)(v:ε)(c:List aG):Prop:=∃a:List TV,a.map (·.1)=c/\bL w S 4 v a.length (mO a)/\∀b∈a,aU w S b.2 b.1.Γ
theorem aU.stay{w w':Z}{S:Bs}{v:ε}{b:At}(c:aU w S v b)(e:w.heap.size<=w'.heap.size)(d:∀a,S a->a<w.heap.size->w'.heap[a]? =w.heap[a]?):aU w' S v b:=bL.stay c e d
theorem gQ.stay{w w':Z}{S:Bs}{v:ε}{d:List aG}(f:gQ w S v d)(c:w.heap.size<=w'.heap.size)(b:∀a,S a->a<w.heap.size->w'.heap[a]? =w.heap[a]?):gQ w' S v d:=by obtain⟨e,g,h,i⟩:=f;exact⟨e,g,h.stay c b,λk j=>(i k j).stay c b⟩
theorem aU.mono{w:Z}{S S':Bs}{v:ε}{b:At}(c:aU w S v b)(d:∀a,S a->a<w.heap.size->S' a):aU w S' v b:=bL.mono c d
theorem gQ.mono{w:Z}{S S':Bs}{v:ε}{c:List aG}(e:gQ w S v c)(b:∀a,S a->a<w.heap.size->S' a):gQ w S' v c:=by obtain⟨d,f,g,h⟩:=e;exact⟨d,f,g.mono b,λj i=>(h j i).mono b⟩
theorem aU.keeps{w w':Z}{S F:Bs}{v:ε}{c:At}(d:aU w S v c)(b:Y w w' F)(e:∀a,S a->¬F a):aU w' S v c:=d.stay b.size λa g f=>b.block a f (e a g)
theorem gQ.keeps{w w':Z}{S F:Bs}{v:ε}{c:List aG}(d:gQ w S v c)(b:Y w w' F)(e:∀a,S a->¬F a):gQ w' S v c:=d.stay b.size λa g f=>b.block a f (e a g)
theorem aU.nil(w:Z)(S:Bs):aU w S (V A 0 0) []:=bL.nil w S 2
theorem gQ.nil(w:Z)(S:Bs):gQ w S (V A 0 0) []:=⟨[],rfl,bL.nil w S 4,nofun⟩
def iQ(a:Nat):Bs:=λb=>a<=b
theorem ID{w:Z}{S:Bs}{a:Nat}{j:TypeId}{b:Array ε}{z n:Nat}(d:θ w a j b)(i:b.size=n*z)(f:S a)(h:n<=Χ):bL w S z (V (N (U a 0 A)) n n) n b.toList:=
 ⟨by simpa using i,_,_,rfl,Ο _,h,nofun,λk c=>by injection c with c;subst c;exact⟨rfl,f,d.lt,λe l g=>by rw[show(⟨a,0+e,A⟩:ay)=⟨a,e,A⟩ by rw[eP],d.cell];simpa using g⟩⟩
def fY(c:Z)(a:List aG×Int)(d:aI)(b:Z):Prop:=∃v,d=ξ (σ #[v,I E a.2])/\gQ b (iQ c.heap.size) v a.1/\Y c b γ
theorem fY.none_{a:List aG×Int}(b:η (a=([],m)))(c:Y w n γ):fY w a (ξ (σ #[V A 0 0,I E m])) n:=by rw[b.out];exact⟨_,rfl,gQ.nil _ _,c⟩
theorem Ih(b:Z)(a:aG)(c:ε)(f:aU b (iQ y) c a.Γ)(e:y<=b.heap.size):gQ (b.alloc (ζ #[I E a.Θ,H (D a.name.toArray),c,H (D a.Β.toArray)] 81)) (iQ y) (V (N (U b.heap.size 0 A)) 1 1) [a]:=
 ⟨[(a,c)],rfl,ID (n:=1) (z:=4) (θ.new _ _ _) rfl e (by unfold Χ;omega),λh g=>by obtain rfl:=cj.1 g;exact f.keeps ((Y.refl b γ).alloc _) λ_ _ d=>d⟩
theorem ae3(a:Z)(b c:aG)(d e:ε)(i:aU a (iQ y) d b.Γ)(j:aU a (iQ y) e c.Γ)(h:y<=a.heap.size):gQ (a.alloc (ζ #[I E b.Θ,H (D b.name.toArray),d,H (D b.Β.toArray),I E c.Θ,H (D c.name.toArray),e,H (D c.Β.toArray)] 81)) (iQ y) (V (N (U a.heap.size 0 A)) 2 2) [b,c]:=
 ⟨[(b,d),(c,e)],rfl,ID (n:=2) (z:=4) (θ.new _ _ _) rfl h (by unfold Χ;omega),λk g=>by
  simp only[dD,List.not_mem_nil,or_false] at g;obtain rfl|rfl:=g
  .exact i.keeps ((Y.refl a γ).alloc _) λ_ _ f=>f
  .exact j.keeps ((Y.refl a γ).alloc _) λ_ _ f=>f⟩
theorem zj  :p.toList.isEmpty=decide (p.data.toList=[]):=by rw[iy];cases p.data.toList<;>rfl
theorem aeA(a:BA)(m:a.size<=1000000000)(g:Z)(l:aT g):ν δ 87 #[H a] g (fY g (ii a.data.toList)):=by
 cases d:a.toList.isEmpty
 .have i:a.data.toList≠[]:=by rw[zj] at d;simpa using d
  have c:=K (Lk a m g l);have b:η (ii a.data.toList=if(gG a.data.toList).2=0 then([⟨3,[],[],(gG a.data.toList).1⟩],0) else([],(gG a.data.toList).2)):=K (by unfold ii;rw[WB i]);clear i;unfold ny at c;generalize gG a.data.toList=n at*;obtain⟨o,j⟩:=n;simp only at b c;by_cases e:j=0
  .subst e;rw[ahM rfl] at b;go_enter func87,ntmps87;go_wp2_with fail;refine c.out.mono ?_;rintro k h ⟨rfl,f⟩;clear c;go_wp2;refine Ω (v:=σ #[V (N (U h.heap.size 0 A)) 1 1,I E 0]) (by simp[ag,results87,go_sem]) rfl ?_;rw[b.out];exact⟨_,rfl,Ih h ⟨3,[],[],o⟩ (V A 0 0) (aU.nil _ _) f.size,f.alloc _⟩
  have p:(j==0)=false:=ahO e;rw[WB e] at b;clear e;go_enter func87,ntmps87;go_wp2_with fail;refine c.out.mono ?_;rintro k h ⟨rfl,f⟩;clear c;go_wp2;all_goals(go_ret2;exact fY.none_ b f)
 have b:η (ii a.data.toList=([],0)):=K (by rw[zj] at d;unfold ii;rw[ahM (by simpa using d)]);go_enter func87,ntmps87;go_wp2;all_goals(go_ret2;exact fY.none_ b (Y.refl _ _))
theorem Gq:∀(b:Nat) a,((D #[32,9,10,13]):BA).data.toList[b]? =N a->a.toNat<128:=by intro b a c;have:a∈([32,9,10,13]:List UInt8):=ln c;simp at this;rcases this with rfl|rfl|rfl|rfl<;>decide
theorem Jf:(prog.info? 218).map (λa=>(a.zero,a.size))=N (N (Μ (Aj 256 (ι false))),256):=by kernel_rfl
theorem aeU(b:Z)(a:BA)(_hs:a.size<=1000000000000):ν δ 221 #[H a,H (D #[32,9,10,13])] b λd e=>d=ξ (H ⟨(trimLeftS a.data.toList de).toArray⟩)/\Y b e γ:=by have c:=Any.strings_TrimLeft_laid af0 Jf a ⟨#[32,9,10,13]⟩ b (by decide) Gq;change ν δ 221 _ _ _ at c;refine c.mono ?_;rintro d e ⟨rfl,f⟩;exact⟨rfl,Y.of_below f γ⟩
theorem aeX(b:Z)(a:BA)(g:a.size<=1000000000000):ν δ 218 #[H a,H (D #[32,9,10,13])] b λd e=>d=ξ (H ⟨(trimRightS a.data.toList de).toArray⟩)/\Y b e γ:=by have c:=Any.strings_TrimRight_laid af2 Jf a ⟨#[32,9,10,13]⟩ b (by omega) (by decide) Gq;change ν δ 218 _ _ _ at c;refine c.mono ?_;rintro d e ⟨rfl,f⟩;exact⟨rfl,Y.of_below f γ⟩
theorem aeV(a b:Bt):(trimLeftS a b).length<=a.length:=by unfold trimLeftS;exact(J3 _).length_le
theorem aeY(a b:Bt):(trimRightS a b).length<=a.length:=by unfold trimRightS;rw[List.length_reverse];exact aJ (J3 _).length_le (by simp)
theorem XO(a:BA)(r:a.size<=1000000000)(h:Z):ν δ 151 #[H a] h (fY h (kP a.data.toList)):=by
 have l:=K (aeX h a (by omega));have n:=aeY a.data.toList de;have o:=rj a;have c:η (kP a.data.toList=if iH (trimRightS a.data.toList de) then([⟨2,trimRightS a.data.toList de,[],[]⟩],0) else([],3)):=K rfl;generalize trimRightS a.data.toList de=b at*;have q:b.length<=1000000000:=by omega
 clear n o;go_enter func151,ntmps151;go_wp2_with fail;refine l.out.mono ?_;rintro e i ⟨rfl,m⟩;clear l;have d:η (ν δ 219 #[H (D b.toArray)] i λe p=>e=ξ (ι (iH b))/\Y i p γ):=K (yx ⟨b.toArray⟩ (by rw[lf];omega) i);cases f:iH b
 .rw[f] at d c;clear f;go_wp2_with fail;refine d.out.mono ?_;rintro e j ⟨rfl,g⟩;go_wp2;all_goals(go_ret2;exact fY.none_ c (m.trans g Η))
 rw[f] at d c;clear f;go_wp2_with fail;refine d.out.mono ?_;rintro e j ⟨rfl,g⟩;have k:=m.trans (F:=γ) g Η;go_wp2;refine Ω (v:=σ #[V (N (U j.heap.size 0 A)) 1 1,I E 0]) (by simp[ag,results151,go_sem]) rfl ?_;rw[c.out];exact⟨_,rfl,Ih j ⟨2,b,[],[]⟩ (V A 0 0) (aU.nil _ _) k.size,k.alloc _⟩
def pC(d:Z)(a:Bt×Bt×Bool)(b:aI)(c:Z):Prop:=b=ξ (σ #[H ⟨a.1.toArray⟩,H ⟨a.2.1.toArray⟩,ι a.2.2])/\Y d c γ
theorem pC.no{a:Bt×Bt×Bool}(b:η (a=([],[],false)))(c:Y w n γ):pC w a (ξ (σ #[H (D #[]),H (D #[]),ι false])) n:=by rw[b.out];exact⟨rfl,c⟩
theorem ahh(a:UInt8)(b:Bt)(g:BA)(j:a=34\/a=39)(p:g.data.toList=a::b)(o:g.size<=1000000000)(d:Z)(m:aT d):ν δ 283 #[H g] d (pC d (iL g.data.toList)):=by
 obtain rfl:=nQ p;clear p;rw[lf] at o;simp only[eI] at o;obtain⟨k,n⟩:=m.len;have q:(⟨(a::b).toArray⟩:BA).extract 1 (List.length b+1)=(D b.toArray):=nQ (by rw[JI];simp);have r:(⟨(a::b).toArray⟩:BA).extract 0 1=⟨#[a]⟩:=nQ (l:=[a]) (by rw[JI];simp);have f:∀c,ν δ 211 #[H ((⟨(a::b).toArray⟩:BA).extract 1 (List.length b+1)),H ((⟨(a::b).toArray⟩:BA).extract 0 1)] (d.drewN c) λl x=>l=ξ (σ #[H ⟨(cut b [a]).1.toArray⟩,H ⟨(cut b [a]).2.1.toArray⟩,ι (cut b [a]).2.2])/\∃k,x=(d.drewN c).drewN k:=λc=>by rw[q,r];exact Re ⟨b.toArray⟩ ⟨#[a]⟩ k (d.drewN c) (by rw[lf];omega) n
 have e:η (iL (a::b)=if(cut b [a]).2.2 then((gG (cut b [a]).1).1,(cut b [a]).2.1,decide ((gG (cut b [a]).1).2=0)) else([],[],false)):=K (by simp only[iL];rw[ahM j]);have i:=rV b [a];have f:=K f;clear n q r;have y:(⟨(a::b).toArray⟩:BA)[0]'(by rw[lf];simp)=a:=rfl;generalize cut b [a]=u at*;obtain⟨v,z,t⟩:=u;simp only at e f i;have h:η (∀c,ν δ 148 #[H (D v.toArray)] (d.drewN c) (ny (d.drewN c) v)):=K λc=>Lk ⟨v.toArray⟩ (by rw[lf];simp at i;omega) (d.drewN c) (m.still ((Y.refl d γ).drewN c));clear i;unfold ny at h;generalize gG v=w at*;obtain⟨A,C⟩:=w;simp only at e h;cases t
 .rw[WB (by simp)] at e;obtain rfl|rfl:=j
  all_goals
   go_enter JN,JP;go_wp2_with fail;go_quiet ((go_at_call 211;exact JF (f.out _)))
   go_wp2;all_goals(go_ret3;exact pC.no e (by first|exact Y.refl _ _|exact(Y.refl _ _).drewN _))
 rw[ahM (by rfl)] at e;obtain rfl|rfl:=j
 all_goals
  go_enter JN,JP;go_wp2_with fail;go_quiet ((go_at_call 211;exact JF (f.out _)))
  go_wp2_with fail;refine(h.out _).mono ?_;rintro l B ⟨rfl,s⟩;go_wp2
  all_goals
   go_ret3
   unfold pC;rw[e.out];exact⟨by first|rfl|(rw[Int.beq_eq_decide]),Y.trans (F:=γ) (by first|exact Y.refl _ _|exact(Y.refl _ _).drewN _) s Η⟩
theorem ahe(a:BA)(m:a.size<=1000000000)(e:Z)(l:aT e):ν δ 283 #[H a] e (pC e (iL a.data.toList)):=by
 have g:=rj a;cases b:a.data.toList with
 |nil=>
  have k:a.toList.isEmpty=true:=by rw[zj,b];rfl
  have f:η (iL []=([],[],false)):=K rfl;clear b g;go_enter JN,JP;go_wp2;all_goals(go_ret3;exact pC.no f (Y.refl _ _))
 |cons c h=>
  by_cases d:c=34\/c=39
  .rw[<-b];exact ahh c h a d b m e l
  have k:a.toList.isEmpty=false:=by rw[zj,b];rfl
  have j:0<a.size:=by rw[g,b];simp
  have n:a[0]=c:=by have:=Lib.data_getElem? a 0 j;rw[b] at this;simpa using this.symm
  have f:η (iL (c::h)=([],[],false)):=K (by simp only[iL];rw[WB d]);have o:((c.toNat:Int)!=34)=true:=bne_iff_ne.2 (λi=>d (.inl (AY.1 (by simp;omega))));have p:((c.toNat:Int)!=39)=true:=bne_iff_ne.2 (λi=>d (.inr (AY.1 (by simp;omega))));clear b g d;go_enter JN,JP;go_wp2;all_goals(go_ret3;exact pC.no f (Y.refl _ _))
def vz(d:Z)(a:(Bt×Bt)×Bt×Bool)(b:aI)(c:Z):Prop:=b=ξ (σ #[Μ #[H ⟨a.1.1.toArray⟩,H ⟨a.1.2.toArray⟩],H ⟨a.2.1.toArray⟩,ι a.2.2])/\Y d c γ
theorem uO(d:Y w n γ)(c:w.heap.size<=y)(a:Nat)(b:ε):Y w (n.setCell (U y a A) b) γ:=d.χ (p:=(U y a A)) (.inr c) b
theorem Vq(b:BA)(T:b.size<=1000000000)(c:Z)(E:aT c):ν δ 222 #[H b] c (vz c (iT b.data.toList)):=by
 have L:=rj b;have u:Y c (c.alloc (ζ #[H (D #[]),H (D #[])] 231)) γ:=(Y.refl c γ).alloc _;have y:θ (c.alloc (ζ #[H (D #[]),H (D #[])] 231)) c.heap.size 231 #[H (D #[]),H (D #[])]:=θ.new _ _ _;have e:=K (BV b ⟨#[61]⟩ _ (E.still u) (by omega));have A:=rV b.data.toList [61];have d:η (iT b.data.toList=if(cut b.data.toList [61]).2.2&&iH (cut b.data.toList [61]).1 then(((cut b.data.toList [61]).1,(iL (cut b.data.toList [61]).2.1).1),(iL (cut b.data.toList [61]).2.1).2.1,(iL (cut b.data.toList [61]).2.1).2.2) else(([],[]),[],false)):=K rfl;have e:η (ν δ 211 #[H b,H (D #[61])] (c.alloc (ζ #[H (D #[]),H (D #[])] 231)) (A7 (c.alloc (ζ #[H (D #[]),H (D #[])] 231)) b.data.toList [61])):=e;unfold A7 at e;generalize cut b.data.toList [61]=J at*;obtain⟨j,n,M⟩:=J;simp only at d e A;have R:j.length<=1000000000:=by omega
 have S:n.length<=1000000000:=by omega
 have x:=K u;have w:=K y;clear A L u y;have Q:∀ {h:Z},Y c h γ->θ h c.heap.size 231 #[H (D #[]),H (D #[])]->True:=λ_ _=>trivial;cases M
 .rw[xJ,WB (by simp)] at d;go_enter func222,ntmps222;go_wp2_with fail;refine e.out.mono ?_;rintro i s ⟨rfl,l⟩;clear e;have o:=x.out.trans (F:=γ) l Η;have a:=l.blk w.out id;have B:=a.frozen 0;have C:=a.frozen 1;have f:=a.cell 0;have g:=a.cell 1;simp at f g;go_wp2;refine Ω (v:=σ #[Μ #[H (D #[]),H (D #[])],H (D #[]),ι false]) (by simp[ag,results222,go_sem,f,g]) rfl ?_;unfold vz;rw[d.out];exact⟨rfl,uO (uO o (Ο _) _ _) (Ο _) _ _⟩
 rw[Bool.true_and] at d;go_enter func222,ntmps222;go_wp2_with fail;refine e.out.mono ?_;rintro i s ⟨rfl,l⟩;clear e;have o:=x.out.trans (F:=γ) l Η;have a:=l.blk w.out id;have k:η (ν δ 219 #[H (D j.toArray)] s λi P=>i=ξ (ι (iH j))/\Y s P γ):=K (yx ⟨j.toArray⟩ (by rw[lf];omega) s);have t:=K a;clear a;cases r:iH j
 .rw[r] at k d;rw[WB (by simp)] at d;clear r;go_wp2_with fail;refine k.out.mono ?_;rintro i h ⟨rfl,m⟩;have p:=o.trans (F:=γ) m Η;have a:=m.blk t.out id;have B:=a.frozen 0;have C:=a.frozen 1;have f:=a.cell 0;have g:=a.cell 1;simp at f g;go_wp2;refine Ω (v:=σ #[Μ #[H (D #[]),H (D #[])],H (D #[]),ι false]) (by simp[ag,results222,go_sem,f,g]) rfl ?_;unfold vz;rw[d.out];exact⟨rfl,uO (uO p (Ο _) _ _) (Ο _) _ _⟩
 rw[r] at k d;rw[ahM rfl] at d;clear r;go_wp2_with fail;refine k.out.mono ?_;rintro i h ⟨rfl,m⟩;have p:=o.trans (F:=γ) m Η;have z:=m.blk t.out id;have G:=K z;clear z k t;have q:η (ν δ 283 #[H (D n.toArray)] h (pC h (iL n))):=K (ahe ⟨n.toArray⟩ (by rw[lf];omega) h (E.still p));unfold pC at q;generalize iL n=N at*;obtain⟨v,O,ok2⟩:=N;simp only at d q;go_wp2_with fail;refine q.out.mono ?_;rintro i V ⟨rfl,F⟩;have I:=p.trans (F:=γ) F Η;have a:=F.blk G.out id;have B:=a.frozen 0;have C:=a.frozen 1;have f:=a.cell 0;have g:=a.cell 1;simp at f g;clear q;go_wp2;refine Ω (v:=σ #[Μ #[H (D j.toArray),H (D v.toArray)],H (D O.toArray),ι ok2]) (by simp[ag,results222,go_sem,f,g]) rfl ?_;unfold vz;rw[d.out];exact⟨rfl,uO (uO I (Ο _) _ _) (Ο _) _ _⟩
def wH:Option Nat->Int
 |some a=>a
 |none=> -1
def J'(i:Z)(d:Nat)(f:Array ε)(e:At)(g:Bt×Bt->Bool):Prop:=
 ∀a,Y i a γ->∀b∈e,ν δ d (#[Μ #[H ⟨b.1.toArray⟩,H ⟨b.2.toArray⟩]]++f) a λc h=>c=ξ (ι (g b))/\Y a h γ
theorem Yk{f:Type}(g:f->Bool)(b:List f)(a:Nat)(h:f)(d:b[a]? =N h)(m:g h=true)(i:∀(e:Nat) (c:f),e<a->b[e]? =N c->g c=false):b.findIdx? g=N a:=by
 induction b generalizing a with
 |nil=>simp at d
 |cons c b n=>
  cases a with
  |zero=>simp at d;subst d;simp[List.findIdx?_cons,m]
  |succ a=>have k:=i 0 c (by omega) rfl;have:=n a (by simpa using d) λe j o l=>i (e+1) j (by omega) (by simpa using l);simp[List.findIdx?_cons,k,this]
theorem Yl{b:Type}(e:b->Bool)(d:List b)(g:∀(a:Nat) (c:b),d[a]? =N c->e c=false):d.findIdx? e=A:=by rw[List.findIdx?_eq_none_iff];intro i h;obtain⟨a,f⟩:=List.getElem?_of_mem h;exact g a i f
variable{W:At}
theorem NV(h:aU w j x W)(ae:W.length<=1000)(n:Nat)(B:Array ε)(ab:∀args w,(callFunc n args).run δ w= .ok (.enter n args) w)(e:Bt×Bt->Bool)(z:J' w n B W e):ν δ 155 #[x,af (.func n) #[] B] w λl Q=>l=ξ (I E (wH (W.findIdx? e)))/\Y w Q γ:=by
 obtain⟨ag,S,rfl⟩:=h.form;have J:=K z;clear z;have u:=Y.refl w γ;go_enter func155,ntmps155;go_wp2;go_loopw [5,8] (λ_ r wr=>∃a:Nat,r=I E a/\a<=W.length/\η (∀b c,b<a->W[b]? =N c->e c=false)/\Y w wr γ) (λ_ r _=>W.length-(jE r).toNat)
 case atStart=>exact⟨0,rfl,ai _,K (λb c h=>ahN h (Fh _)),u⟩
 clear u;obtain⟨a,rfl,ad,f,k⟩:=hrel;by_cases y:a<W.length
 .have P:(a:Int)<W.length:=by omega
  obtain⟨g,o⟩:∃g,W[a]? =N g:=⟨_,cT y⟩;obtain⟨c,C,_,_,_,⟨T,l,_,_⟩,q⟩:=(h.keeps k λ_ _ h=>h).cell y;injection l with M aa O;subst M O;obtain⟨F,G⟩:=yI W a g o;have V:wr.cell? ⟨c,C+a*2,A⟩=_:=q _ _ F;have X:wr.cell? ⟨c,C+a*2+1,A⟩=_:=q _ _ G;have m:=K (J.out wr k g (ln o));have t:=K o;clear q F G o;go_wp2_with fail;cases i:e g
  .rw[i] at m
   have H:η (∀b c,b<a+1->W[b]? =N c->e c=false):=K λb L ac d=>by
    obtain h1|h1:=fU b a
    .exact f.out b L h1 d
    obtain rfl:b=a:=by omega
    rw[t.out] at d;injection d with d;rw[<-d];exact i
   clear i f;refine m.out.mono ?_;rintro l R ⟨rfl,s⟩;go_wp2;go_roundw
   case rel=>exact⟨a+1,by go_num,by omega,H,k.trans s Η⟩
   case measure=>simp[jE];omega
  rw[i] at m;have p:η (W.findIdx? e=N a):=K (Yk e W a g t.out i f.out);clear i f;refine m.out.mono ?_;rintro l R ⟨rfl,s⟩;go_wp2;all_goals(go_ret;exact⟨jT (by rw[p.out];rfl),k.trans s Η⟩)
 obtain rfl:a=W.length:=by omega
 have P:¬(W.length:Int)<W.length:=by omega
 have p:η (W.findIdx? e=A):=K (Yl e W λb c d=>f.out b c (by
  obtain h1|h1:=fU b W.length
  .exact h1
  rw[List.getElem?_eq_none h1] at d;cases d) d)
 clear f;go_wp2;all_goals(go_ret;exact⟨jT (by rw[p.out];rfl),k⟩)
theorem Wy{S:Bs}(g:aU w S x W)(l:W.length<=1000)(b:Nat)(d:Array ε)(k:∀args w,(callFunc b args).run δ w= .ok (.enter b args) w)(a:Bt×Bt->Bool)(h:J' w b d W a):ν δ 223 #[x,af (.func b) #[] d] w λf o=>f=ξ (ι (W.any a))/\Y w o γ:=by
 have j:=K (NV g l b d k a h)
 have e:η (W.any a=decide (0<=wH (W.findIdx? a))):=K (by
  cases c:W.findIdx? a with
  |none=>
   rw[List.findIdx?_eq_none_iff] at c;have:W.any a=false:=by rw[List.any_eq_false];exact λi m=>by simp[c i m]
   rw[this];rfl
  |some q=>
   have:W.any a=true:=by rw[<-List.findIdx?_isSome,c];rfl
   rw[this];simp[wH])
 rw[e.out];generalize wH (W.findIdx? a)=i at*;obtain⟨r,p,rfl⟩:=g.form;clear h e;go_enter func223,ntmps223;go_wp2_with fail;refine j.out.mono ?_;rintro f s ⟨rfl,n⟩;go_wp2;all_goals(go_ret;exact⟨rfl,n⟩)
theorem afh:(prog.info? 218).map (λa=>(a.zero,a.size))=N (N (Μ (Aj 256 (ι false))),256):=by kernel_rfl
theorem VV(a:Nat)(c:a<5):∃b:Nat,b<128/\km ⟨#[32,9,10,13,47]⟩ a=(b,1):=by
 have:a=0\/a=1\/a=2\/a=3\/a=4:=by omega
 obtain rfl|rfl|rfl|rfl|rfl:=this
 .exact⟨32,by decide,by decide⟩
 .exact⟨9,by decide,by decide⟩
 .exact⟨10,by decide,by decide⟩
 .exact⟨13,by decide,by decide⟩
 exact⟨47,by decide,by decide⟩
theorem Zq(b:BA)(a:Nat)(p:a<b.size)(l:128<=(b[a]).toNat):128<=(km b a).1/\(km b a).1<=1114111/\Lib.validRune (km b a).1=true/\1<=(km b a).2/\a+(km b a).2<=b.size/\∀(c:Nat) d,a<=c->c<a+(km b a).2->b.data.toList[c]? =N d->128<=d.toNat:=by
 have n:∀g,g<b.size->b.data.toList[g]? =N (b.get! g):=λg i=>by rw[Ee];have:b.get! g=b.data[g]! :=rfl;rw[this,getElem!_pos b.data g i];exact ql i
 have m:128<=(b.get! a).toNat:=by
  have k:b.get! a=b[a]:=by have:b.get! a=b.data[a]! :=rfl;rw[this,getElem!_pos b.data a p];rfl
  rw[k];exact l
 have j:=decodeN_shape (b.size-a) (b.get! a).toNat (b.get! (a+1)).toNat (b.get! (a+2)).toNat (b.get! (a+3)).toNat;rw[<-decode_at] at j;have q:=J8 (b.get! a);have r:=J8 (b.get! (a+1));have s:=J8 (b.get! (a+2));have t:=J8 (b.get! (a+3));unfold Lib.validRune
 have at_:∀(c:Nat) d,b.data.toList[c]? =N d->d=b.get! c:=λc d e=>by
  have o:c<b.size:=by
   have:=(iN.1 e).1
   rwa [gI] at this
  rw[n c o] at e;exact(cr e).symm
 obtain⟨h1,_⟩|⟨h1,h2,h3,h4,h5⟩|⟨h1,h2,h3,h4,h5,h6,h7⟩|⟨h1,h2,h3,h4,h5,h6,h7,h8⟩|h1:=j
 .omega
 .rw[h5];refine⟨h4,by simp only;omega,decide_eq_true (by simp only;omega),by simp,by simp only;omega,λc d h f e=> ?_⟩;have:=at_ c d e;subst this;simp only at f;have:c=a\/c=a+1:=by omega
  rcases this with rfl|rfl<;>omega
 .rw[h7];refine⟨by simp only;omega,by simp only;omega,decide_eq_true (by simp only;omega),by simp,by simp only;omega,λc d h f e=> ?_⟩;have:=at_ c d e;subst this;simp only at f;have:c=a\/c=a+1\/c=a+2:=by omega
  rcases this with rfl|rfl|rfl<;>omega
 .rw[h8];refine⟨by simp only;omega,by simp only;omega,decide_eq_true (by simp only;omega),by simp,by simp only;omega,λc d h f e=> ?_⟩;have:=at_ c d e;subst this;simp only at f;have:c=a\/c=a+1\/c=a+2\/c=a+3:=by omega
  rcases this with rfl|rfl|rfl|rfl<;>omega
 rw[h1];refine⟨by decide,by decide,by decide,by simp,by simp only;omega,λc d h f e=> ?_⟩;have:=at_ c d e;subst this;simp only at f;have:c=a:=by omega
 subst this;exact m
theorem VW(b c:Nat)(a:UInt8)(i:128<=a.toNat):tG (((D #[32,9,10,13,47]):BA).extract b c).data.toList a= -1:=by
 by_cases f:tG (((D #[32,9,10,13,47]):BA).extract b c).data.toList a= -1
 .exact f
 exfalso;have g:∀e∈((D #[32,9,10,13,47]):BA).data.toList,e.toNat<128:=by decide
 cases d:(((D #[32,9,10,13,47]):BA).extract b c).data.toList.contains a with
 |true=>have:=g a (mem_extract (EK.1 d));omega
 |false=>have:=Lib.contains_iff_indexByte (((D #[32,9,10,13,47]):BA).extract b c).data.toList a;rw[d] at this;have h:=of_decide_eq_false this.symm;have:=Lib.indexByte_ge (((D #[32,9,10,13,47]):BA).extract b c).data.toList a;omega
theorem ZL(a:Z)(f:Int)(S:128<=f)(B:f<=1114111)(hv:Lib.validRune f=true):ν δ 147 #[H (D #[32,9,10,13,47]),I .i32 f] a λg i=>g=ξ (I E (-1))/\Y a i γ:=by
 by_cases p:f=65533
 .subst p;go_enter func147,ntmps147;go_wp2;go_loopg [5,6] 5 (λQ _ _ wr=>∃d:Nat,d+Q=5/\wr.heap[a.heap.size]? =N (.stringIter ⟨#[32,9,10,13,47]⟩ d)/\Y a wr γ)
  case atStart=>exact⟨0,by omega,World.iter_heap a _ 0,(Y.refl a γ).alloc _⟩
  obtain⟨d,au,hit,o⟩:=hrel;cases gk with
  |succ P=>
   obtain⟨e,l,J⟩:=VV d (by omega);have s:∀h,(Am (π (N (U a.heap.size 0 A))) true h).run δ wr=_:=λh=>Lib.run_next_any_at wr a.heap.size _ d h hit (by show d<5;omega);rw[J] at s;have X:=JJ wr a.heap.size _ d (d+1) hit;have W:Y a (wr.iterAt a.heap.size ⟨#[32,9,10,13,47]⟩ (d+1)) γ:=Y.of_below (JG o.below (k:=a.heap.size) (Ο _) _ (d+1)) γ;have aw:((e:Int)==65533)=false:=ahO (by omega);simp only at s;clear J hit o;generalize wr.iterAt a.heap.size ⟨#[32,9,10,13,47]⟩ (d+1)=am at*;go_wp2;go_roundg P
   case measure=>omega
   case rel=>exact⟨d+1,by omega,X,W⟩
  |zero=>have s:∀h,(Am (π (N (U a.heap.size 0 A))) true h).run δ wr=_:=λh=>Lib.run_next_end_at wr a.heap.size _ d h hit (by show ¬d<5;omega);go_wp2;go_ret;exact⟨rfl,o⟩
 have t:Utf8.valid f=true:=by rw[Go.validRune_eq];exact hv
 obtain⟨c,C,y,z,n⟩:∃c:BA,Utf8.encode f=c/\2<=c.size/\c.size<=4/\∃e:UInt8,128<=e.toNat/\∀R:c.size-1<c.size,c[c.size-1]'R=e:=by obtain⟨y,z,n⟩:=encode_facts f t S;exact⟨_,rfl,y,z,_,n (by omega),λ_=>rfl⟩
 obtain⟨e,l,G⟩:=n;have x:=K (agW f);rw[hv] at x;have M:η (∀k g a,ν δ 206 #[H (((D #[32,9,10,13,47]):BA).extract k g),I bh (e.toNat:Int)] a λm i=>m=ξ (I E (-1))/\a=i):=K λk g a=>(agH (((D #[32,9,10,13,47]):BA).extract k g) (e.toNat:Int) a).mono λm i ⟨B,T⟩=>⟨by rw[B,show((e.toNat:Int)).toNat.toUInt8=e by simp,VW k g e l],T.symm⟩;have an:(f==65533)=false:=ahO p;have L:=K C;have w:=K (Φ l G);have al:=K (Φ hv t);clear C l G hv t p;go_enter func147,ntmps147;go_wp2_with fail;refine(x.out _).mono ?_;rintro m ad ⟨rfl,rfl⟩;have ao:∀a,(convert 21 9 (I .i32 f)).run δ a= .ok (H c) a:=λa=>by rw[run_convert_int_string a 21 9 .i32 f (by kernel_rfl) (by kernel_rfl),L.out]
 go_wp2_with fail
 go_step3
 go_wp2_with fail;obtain⟨b,q,hl1,hl3⟩:∃b:Nat,(c.size:Int)-1=b/\1<=b/\b<=3:=⟨c.size-1,by omega,by omega,by omega⟩;rw[q];have r:b<c.size:=by omega
 have F:c[b]'r=e:=by
  have:=w.out.2 (by omega);have g:c.size-1=b:=by omega
  simp only[g] at this;exact this
 have u:=K (Φ q (Φ r F));go_loopg [9] 1 (λO ac wr=>O=1/\ac=I E b/\wr=ad)
 case atStart=>exact⟨rfl,rfl,rfl⟩
 obtain⟨rfl,rfl,rfl⟩:=hrel;have a0:(b:Int)<5:=by omega
 go_wp2_with fail
 go_step3
 go_wp2_with fail;have a1:∀a,(Instr.index 9 (H c) (I E (b:Int))).run δ a= .ok (I bh (e.toNat:Int)) a:=λa=>by rw[run_index_string a 9 c E b (by kernel_rfl),dif_pos ⟨by omega,by omega⟩];simp[u.out.2.2]
 obtain⟨j,hy,i2⟩:∃j:Nat,j<128/\∀a,(Instr.index 9 (H (D #[32,9,10,13,47])) (I E (b:Int))).run δ a= .ok (I bh (j:Int)) a:=by
  have:b=1\/b=2\/b=3:=by omega
  obtain rfl|rfl|rfl:=this
  .exact⟨9,by decide,λa=>by kernel_rfl⟩
  .exact⟨10,by decide,λa=>by kernel_rfl⟩
  .exact⟨13,by decide,λa=>by kernel_rfl⟩
 have ab:((j:Int)==(e.toNat:Int))=false:=ahO (by have:=w.out.1;omega);clear q r F u;have a2:((j:Int)!=(e.toNat:Int))=true:=by simp[bne,ab]
 have av:IntKind.i64.wrap ((b:Int)+1)=(b:Int)+1:=wrap_small _ (by omega) (by omega);have ap:(0:Int)<=(b:Int)+1:=by omega
 have aq:(b:Int)+1<=5:=by omega
 go_region
 go_wp2_with fail;go_region_with (go_at_call 206;refine(M.out _ _ _).mono ?_;rintro m i ⟨rfl,rfl⟩)
 go_wp2_with fail;rw[tF];repeat (show Exit.noGoto _ Exit.ret _ _;rw[tF])
 go_ret;exact⟨rfl,(Y.refl _ _).drew.drew⟩
theorem abB{c chars:List UInt8}(g:NoAny c chars y)(i:∀(b:Nat) a,y<=b->b<y+k->c[b]? =N a->128<=a.toNat)(h:∀e∈chars,e.toNat<128):NoAny c chars (y+k):=λb a l d=>by
 by_cases f:b<y
 .exact g b a f d
 have:=i b a (by omega) l d;cases j:chars.contains a with
 |false=>rfl
 |true=>have:=h a (EK.1 j);omega
theorem ZI(a:BA)(aa:a.size<=8)(F:Z):ν δ 220 #[H a,H (D #[32,9,10,13,47])] F λh P=>h=ξ (I E (indexAny a.data.toList [32,9,10,13,47]))/\Y F P γ:=by
 have z:decide ((8:Int)<(a.size:Int))=false:=decide_eq_false (by omega);have u:=K (agJ (a.size:Int));rw[z] at u;have G:=K (agI ⟨#[32,9,10,13,47]⟩);clear z;go_enter func220,ntmps220;go_wp2_with fail;refine(u.out _).mono ?_;rintro ab c ⟨rfl,rfl⟩;go_wp2_with fail;go_loopg [9,10] a.size (λO _ _ wr=>∃b:Nat,b<=a.size/\a.size<=b+O/\wr.heap[c.heap.size]? =N (.stringIter a b)/\Y c wr γ/\η (NoAny a.data.toList [32,9,10,13,47] b))
 case atStart=>exact⟨0,ai _,by omega,World.iter_heap c _ 0,(Y.refl c γ).alloc _,K (NoAny.zero _ _)⟩
 obtain⟨b,X,T,hit,l,r⟩:=hrel;by_cases f:b<a.size
 .obtain⟨m,rfl⟩:∃m,gk=m+1:=⟨gk-1,by omega⟩;have s:∀g,(Am (π (N (U c.heap.size 0 A))) true g).run δ wr=_:=λg=>Lib.run_next_any_at wr c.heap.size a b g hit f;have p:a.data.toList[b]? =N (a[b]'f):=Lib.data_getElem? a b f;obtain⟨d,hx⟩:∃d:UInt8,a[b]'f=d:=⟨_,rfl⟩;rw[hx] at p;by_cases n:d.toNat<128
  .rw[decode_ascii a b f (by rw[hx];exact n),hx] at s;have q:=JJ wr c.heap.size a b (b+1) hit;have o:Y c (wr.iterAt c.heap.size a (b+1)) γ:=Y.of_below (JG l.below (k:=c.heap.size) (Ο _) a (b+1)) γ;have k:=K (G.out (d.toNat:Int) (wr.iterAt c.heap.size a (b+1)) (by omega) (by omega));have i:=Lib.contains_iff_indexByte [32,9,10,13,47] d;rw[show((d.toNat:Int)).toNat.toUInt8=d by simp] at k;have t:=K (Φ p n);clear p n hx hit l;simp only at s;generalize wr.iterAt c.heap.size a (b+1)=J at*;cases j:List.contains [32,9,10,13,47] d
   .rw[j] at i;have W:¬((0:Int)<=tG [32,9,10,13,47] d):=of_decide_eq_false i.symm;clear i;have e:=K (r.out.succ t.out.1 j);clear j;go_wp2_with fail;refine k.out.mono ?_;rintro h w ⟨rfl,rfl⟩;go_wp2_with fail;go_roundg m
    case measure=>omega
    case rel=>exact⟨b+1,by omega,by omega,q,o,e⟩
   rw[j] at i;have V:(0:Int)<=tG [32,9,10,13,47] d:=of_decide_eq_true i.symm;clear i;have e:=K (indexAny_hit r.out t.out.1 j);clear j;go_wp2_with fail;refine k.out.mono ?_;rintro h w ⟨rfl,rfl⟩;go_wp2_with fail;go_ret;exact⟨by rw[e.out];rfl,o⟩
  obtain⟨L,M,x,R,S,y⟩:=Zq a b f (by rw[hx];omega);have e:=K (abB r.out y (by decide));have q:=JJ wr c.heap.size a b (b+(km a b).2) hit;have o:Y c (wr.iterAt c.heap.size a (b+(km a b).2)) γ:=Y.of_below (JG l.below (k:=c.heap.size) (Ο _) a _) γ;have k:=K (ZL (wr.iterAt c.heap.size a (b+(km a b).2)) (km a b).1 (by omega) (by omega) x);clear L M x y p hx hit l n;generalize(km a b).1=Q at*;generalize(km a b).2=C at*;generalize wr.iterAt c.heap.size a (b+C)=J at*;go_wp2_with fail;refine k.out.mono ?_;rintro h w ⟨rfl,B⟩;go_wp2_with fail;go_roundg m
  case measure=>omega
  case rel=>exact⟨b+C,by omega,by omega,(by have:=B.block c.heap.size (by have:=(Array.getElem?_eq_some_iff.1 q).1;exact this) id;rw[this];exact q),o.trans B Η,e⟩
 have s:∀g,(Am (π (N (U c.heap.size 0 A))) true g).run δ wr=_:=λg=>Lib.run_next_end_at wr c.heap.size a b g hit f
 have e:η (indexAny a.data.toList [32,9,10,13,47]= -1):=K (indexAny_none (by
  have h:a.data.toList.length=b:=by rw[gI];have:a.data.size=a.size:=rfl;omega
  rw[h];exact r.out))
 go_wp2;go_ret;exact⟨by rw[e.out];rfl,l⟩
theorem ZH(a:BA)(h:a.size<=1000000001)(b:Z):ν δ 220 #[H a,H (D #[32,9,10,13,47])] b λd e=>d=ξ (I E (indexAny a.data.toList (de++[47])))/\Y b e γ:=by
 by_cases g:a.size<=8
 .exact ZI a g b
 refine(agG (zero_of_info afh).1 a ⟨#[32,9,10,13,47]⟩ b (by decide) (by omega) (by omega) (by decide) (λi c f=>(by decide:∀c∈((D #[32,9,10,13,47]):BA).data.toList,c.toNat<128) c (ln f))).mono ?_;rintro d e ⟨rfl,rfl⟩;exact⟨rfl,((Y.refl b γ).alloc _).alloc _⟩
theorem NS(b:Bt)(d:b.contains 32=true):∀c:Bt,∃a:Nat,indexAny (c++[32]) b=a/\a<=c.length
 |[]=>⟨0,by simp only[AI,indexAny];rw[ahM d];rfl,Ο _⟩
 |f::c=>by
  obtain⟨a,g,h⟩:=NS b d c;simp only[List.cons_append,indexAny];by_cases e:b.contains f=true
  .rw[ahM e];exact⟨0,rfl,ai _⟩
  .rw[WB e,g];have:((a:Int)== -1)=false:=ahO (by omega);rw[this];exact⟨a+1,by simp,by simp;omega⟩
theorem abd(g:θ w y 231 #[H p,H L])(b c:BA):ν δ 224 #[Μ #[H b,H c],π (N (U y 0 A))] w λf i=>f=ξ (ι (b.toList==p.toList))/\Y w i γ:=by have a:Y w (w.alloc (ζ #[H b,H c] 231)) γ:=(Y.refl w γ).alloc _;have h:=a.blk g id;have e:=h.cell 0;simp at e;have d:=K a;clear a;go_enter func224,ntmps224;go_wp2;all_goals(go_ret;exact⟨rfl,d.out⟩)
theorem ahf(a:Bt):(iL a).2.1.length<=a.length-1:=by
 cases a with
 |nil=>simp[iL]
 |cons b a=>
  have:=rV a [b];simp only[iL];split
  .split
   .simp;omega
   simp
  simp
theorem Vp(a:Bt):(iT a).2.1.length<=a.length/\((iT a).2.2=true->(iT a).2.1.length<a.length):=by
 unfold iT;split
 .rename_i b;have c:=rV a [61];have d:=ahf (cut a [61]).2.1;simp only[Bool.and_eq_true] at b;rw[ahM b.1] at c;simp at c⊢;omega
 simp
theorem QT:(prog.info? 231).map (λa=>(a.zero,a.size,a.bytes))=N (N (Μ #[H (D #[]),H (D #[])]),2,32):=by kernel_rfl
theorem Rm:prog.underlying 79=N (.slice 231):=by kernel_rfl
theorem Lt{w:Z}(e:Nat)(l:w.ownsRow e 231 2 x W.length (nC W))(a:Bt×Bt)(m:W.length<=1000000)(k:e<=w.heap.size):∃c d,(gJ #[79,79] 79 #[x,V (N (U w.heap.size 0 A)) 1 1]).run δ (w.alloc (ζ #[H ⟨a.1.toArray⟩,H ⟨a.2.toArray⟩] 231))= .ok c d/\d.ownsRow e 231 2 c (W.length+1) (nC (W++[a]))/\Y w d (λb=>x.ownBlock=N b)/\∀b,c.ownBlock=N b->x.ownBlock=N b\/w.heap.size<=b:=by obtain⟨c,d,g,h,i,j⟩:=nA (w:=w) e 79 231 Rm QT rfl (by decide) l [H ⟨a.1.toArray⟩,H ⟨a.2.toArray⟩] rfl (by intro n f;simp at f;rcases f with rfl|rfl<;>rfl) (by unfold Χ;omega) (by omega) k;refine⟨c,d,g,?_,i,j⟩;simpa[nC] using h
theorem VC(a:BA)(cy:a.size<=1000000000)(g:Z)(b0:aT g):ν δ 152 #[H a] g (fY g (iU a.data.toList)):=by
 have b4:=rj a;obtain⟨f,ba,b3⟩:=NS (de++[47]) (by decide) a.data.toList
 have al:η (ν δ 220 #[H (a++⟨#[32]⟩),H (D #[32,9,10,13,47])] g λd B=>d=ξ (I E f)/\Y g B γ):=K (by
  have:=ZH (a++⟨#[32]⟩) (by rw[ByteArray.size_append];exact Nat.succ_le_succ cy) g;have d:(a++⟨#[32]⟩:BA).data.toList=a.data.toList++[32]:=by simp
  rw[d,ba] at this;exact this)
 have dl:(f:Int)<=a.size:=by omega
 have ce:a.extract 0 f=⟨(a.data.toList.take f).toArray⟩:=nQ (by rw[JI,Nat.sub_zero,List.drop_zero]);have cf:a.extract f a.size=⟨(a.data.toList.drop f).toArray⟩:=nQ (by rw[JI,mo (by rw[List.length_drop];omega)]);have a0:=K ce;have co:=K cf;clear ce cf;have HS:=K b4;have c5:=K b3;have bN:=run_string_add_sum (P:=δ) g a ⟨#[32]⟩ (by show a.size+1<=_;omega);generalize(a++⟨#[32]⟩:BA)=dt at*;clear b4 b3;have Q:η (∀R,ν δ 219 #[H (a.extract 0 f)] R λd B=>d=ξ (ι (iH (a.data.toList.take f)))/\Y R B γ):=K λR=>by rw[a0.out];exact yx ⟨(a.data.toList.take f).toArray⟩ (by rw[lf,lO];omega) R
 have h:η (iU a.data.toList=if iH (a.data.toList.take f) then pF (a.data.toList.take f) (lZ (a.data.toList.length+1) [] (a.data.toList.drop f)) else([],3)):=K (by unfold iU;rw[ba];rfl);have c6:(a.data.toList.drop f).length<=a.data.toList.length:=by simp
 clear ba;generalize a.data.toList.take f=nm at*;generalize a.data.toList.drop f=bi at*;cases x:iH nm
 .rw[x] at Q h;rw[WB (by simp)] at h;clear x;go_enter func152,ntmps152;go_wp2_with fail
  go_step3
  go_wp2_with fail;refine al.out.mono ?_;rintro d X ⟨rfl,W⟩;clear al bN;go_wp2_with fail
  ((with_reducible refine(Q.out _).mono ?_))
  rintro d ab ⟨rfl,O⟩;have aw:Y g ab γ:=(W.alloc _).trans O Η;go_wp2;try rw[tF]
  all_goals(go_ret2;exact fY.none_ h aw)
 rw[x] at Q h;rw[ahM rfl] at h;clear x;go_enter func152,ntmps152;go_wp2_with fail
 go_step3
 go_wp2_with fail;refine al.out.mono ?_;rintro d X ⟨rfl,W⟩;clear al bN;go_wp2_with fail
 ((with_reducible refine(Q.out _).mono ?_))
 rintro d ab ⟨rfl,O⟩;have cx:=b0.still W;have dv:X.heap.size<ab.heap.size:=by have:=O.size;simp at this;omega
 have bF:θ ab X.heap.size 81 #[I E 1,H (a.extract 0 f),V A 0 0,H (D #[])]:=O.blk (θ.new _ _ _) id;have aw:Y g ab γ:=(W.alloc _).trans O Η;have cA:g.heap.size<=X.heap.size:=W.size;have C:=K bF;clear O bF Q cx;generalize X.heap.size=t at*;go_wp2_with fail
 go_step3
 go_wp2_with fail;go_loopg [0,6,7,8,9,10] (a.data.toList.length+1) (λw c2 _ _ _ _ _ bq=>∃(c:Bt) (b:At) (S:ε),c2=H (D c.toArray)/\η (lZ (a.data.toList.length+1) [] bi=lZ w b c)/\c.length<w/\c.length<=1000000000/\b.length<=6/\θ bq t 81 #[I E 1,H (a.extract 0 f),S,H (D #[])]/\bq.ownsRow g.heap.size 231 2 S b.length (nC b)/\S.ownBlock≠N t/\Y g bq γ)
 case atStart=>exact⟨bi,[],V A 0 0,by rw[co.out],K rfl,by omega,by have:=HS.out;omega,by simp,C.out,db _ _ _ _,by simp[iM],aw⟩
 obtain⟨c,b,S,rfl,o,dk,dm,dg,x,bb,b2,av⟩:=hrel;cases gk with
 |zero=>omega
 |succ w=>
  obtain⟨ap,ac,rfl⟩:∃bf a3,S=V bf b.length a3:=(bL.dw (S:=λ_=>True) bb λ_ _=>trivial).form;have G:η (ν δ 221 #[H (D c.toArray),H (D #[32,9,10,13])] wr λd B=>d=ξ (H ⟨(trimLeftS c de).toArray⟩)/\Y wr B γ):=K (aeU wr ⟨c.toArray⟩ (by rw[lf];omega));have dx:=aeV c de
  have j:η (lZ (w+1) b c=if trimLeftS c de=[] then N (b,false) else if trimLeftS c de=[47] then N (b,true) else
   if(trimLeftS c de).length=c.length\/(iT (trimLeftS c de)).2.2=false\/(b.any λJ=>J.1==(iT (trimLeftS c de)).1.1)=true\/b.length=6 then A
   else lZ w (b++[(iT (trimLeftS c de)).1]) (iT (trimLeftS c de)).2.1):=K rfl
  generalize trimLeftS c de=i at*;have C:=K x;have au:=K bb;have ch:=K b2;clear x bb b2;by_cases M:i=[]
  .subst M;have n:η (iU a.data.toList=([⟨1,nm,b,[]⟩],0)):=K (by rw[h.out,o.out,j.out,ahM rfl];rfl);clear h o j;go_wp2_with fail;refine G.out.mono ?_;rintro d q ⟨rfl,l⟩;have u:=av.trans (F:=γ) l Η;have r:=l.blk C.out id;have a4:=r.cell 0;have a5:=r.cell 1;have L:=r.cell 2;have a6:=r.cell 3;simp at a4 a5 L a6;have y:=aD au.out l (λ_ _ e=>e);have aq:η (aU q (iQ g.heap.size) (V ap b.length ac) b):=K (bL.dw y λbc a9=>(y.lt bc a9).1);clear G y;go_wp2;try rw[tF]
   refine Ω (v:=σ #[V (N (U q.heap.size 0 A)) 1 1,I E 0]) (by simp[ag,results152,go_sem]) rfl ?_;rw[n.out,a0.out];exact⟨_,rfl,Ih q ⟨1,nm,b,[]⟩ _ aq.out u.size,u.alloc _⟩
  by_cases T:i=[47]
  .subst T;have n:η (iU a.data.toList=([⟨1,nm,b,[]⟩,⟨2,nm,[],[]⟩],0)):=K (by rw[h.out,o.out,j.out,WB (by simp),ahM rfl];rfl);clear h o j M;go_wp2_with fail;refine G.out.mono ?_;rintro d q ⟨rfl,l⟩;have u:=av.trans (F:=γ) l Η;have r:=l.blk C.out id;have a4:=r.cell 0;have a5:=r.cell 1;have L:=r.cell 2;have a6:=r.cell 3;simp at a4 a5 L a6;have y:=aD au.out l (λ_ _ e=>e);have aq:η (aU q (iQ g.heap.size) (V ap b.length ac) b):=K (bL.dw y λbc a9=>(y.lt bc a9).1);clear G y;go_wp2;try rw[tF]
   refine Ω (v:=σ #[V (N (U q.heap.size 0 A)) 2 2,I E 0]) (by simp[ag,results152,go_sem]) rfl ?_;rw[n.out,a0.out];exact⟨_,rfl,ae3 q ⟨1,nm,b,[]⟩ ⟨2,nm,[],[]⟩ _ (V A 0 0) aq.out (aU.nil _ _) u.size,u.alloc _⟩
  rw[WB M,WB T] at j;have e0:((D i.toArray):BA).toList.isEmpty=false:=by rw[zj];simpa using M
  have cq:(((D i.toArray):BA).toList==[47])=false:=by rw[iy];exact ahO T
  have c8:i.isEmpty=false:=by simpa using M
  have c9:(i==[47])=false:=ahO T;clear M T e0 cq;go_wp2_with fail;refine G.out.mono ?_;rintro d q ⟨rfl,l⟩;clear G;have u:=av.trans (F:=γ) l Η;have ad:η (ν δ 222 #[H (D i.toArray)] q (vz q (iT i))):=K (Vq ⟨i.toArray⟩ (by rw[lf];omega) q (b0.still u));have bE:=Vp i;unfold vz at ad;generalize iT i=cS at*;obtain⟨⟨k,p⟩,behind,b9⟩:=cS;simp only at j ad bE;go_wp2_with fail;refine ad.out.mono ?_;rintro d m ⟨rfl,an⟩;clear ad;have cl:=u.trans (F:=γ) an Η;have a1:=(an.blk (l.blk C.out id) id).alloc (ζ #[H (D k.toArray),H (D p.toArray)] 231);have a7:θ (m.alloc (ζ #[H (D k.toArray),H (D p.toArray)] 231)) m.heap.size 231 #[H (D k.toArray),H (D p.toArray)]:=θ.new _ _ _;have bd:Y m (m.alloc (ζ #[H (D k.toArray),H (D p.toArray)] 231)) γ:=(Y.refl m γ).alloc _;have be:=aD (aD (aD au.out l (λ_ _ e=>e)) an (λ_ _ e=>e)) bd (λ_ _ e=>e);have dp:t<m.heap.size:=by have:=C.out.lt;have:=l.size;have:=an.size;omega
  have L:=a1.cell 2;simp at L;have br:=K a1;have bt:=K a7;have bz:=K be;have bs:η (ν δ 223 #[V ap b.length ac,af (.func 224) #[] #[π (N (U m.heap.size 0 A))]] (m.alloc (ζ #[H (D k.toArray),H (D p.toArray)] 231)) λd B=>d=ξ (ι (b.any λJ=>J.1==k))/\Y (m.alloc (ζ #[H (D k.toArray),H (D p.toArray)] 231)) B γ):=K (Wy (S:=λ_=>True) (bL.dw be λ_ _=>trivial) (by omega) 224 _ (λ_ _=>by kernel_rfl) _ λR cI bB dd=>by have:=abd (cI.blk a7 id) ⟨bB.1.toArray⟩ ⟨bB.2.toArray⟩;rw[iy,iy] at this;exact this);clear a1 a7 be;generalize(b.any λJ=>J.1==k)=cc at*;have bx:=cl.trans (F:=γ) bd Η;have bw:=K bx;have cD:m.heap.size<(m.alloc (ζ #[H (D k.toArray),H (D p.toArray)] 231)).heap.size:=by simp
  clear bx bd;go_wp2_with fail;refine bs.out.mono ?_;rintro d bk ⟨rfl,P⟩;have F:=bw.out.trans (F:=γ) P Η;have am:=P.blk br.out id;have a8:=P.blk bt.out id;have b7:=aD bz.out P (λ_ _ e=>e);have cv:=am.cell 2;have ct:=a8.cell 0;have cu:=a8.cell 1;have dc:=am.frozen 2;simp at cv ct cu;have ds:m.heap.size<bk.heap.size:=by have:=P.size;omega
  clear bs br bt bz L bw P cD;have cg:=K am;have bA:=K b7;clear am a8 b7;have s:(i.length=c.length\/b9=false\/cc=true\/b.length=6)->η (iU a.data.toList=([],3)):=λe=>K (by rw[h.out,o.out,j.out,ahM e];rfl);by_cases z:i.length=c.length
  .have n:=s (.inl z);have cU:((i.length:Int)==(c.length:Int))=true:=beq_iff_eq.2 (by omega);clear s h o j z;go_wp2;all_goals(try rw[tF]);(go_ret2;exact fY.none_ n F)
  have cU:((i.length:Int)==(c.length:Int))=false:=ahO (by omega);cases b9
  .have n:=s (.inr (.inl rfl));clear s h o j z;go_wp2;all_goals(try rw[tF]);(go_ret2;exact fY.none_ n F)
  cases cc
  .by_cases ao:b.length=6
   .have n:=s (.inr (.inr (.inr ao)));have cW:((b.length:Int)==6)=true:=beq_iff_eq.2 (by omega);clear s h o j z ao;go_wp2;all_goals(try rw[tF]);(go_ret2;exact fY.none_ n F)
   have cW:((b.length:Int)==6)=false:=ahO (by omega);have c0:b.length+1<=6:=by omega
   have ck:η (lZ (a.data.toList.length+1) [] bi=lZ w (b++[(k,p)]) behind):=K (by rw[o.out,j.out,WB (by simp;exact⟨z,ao⟩)]);obtain⟨c3,bn,c1,b8,b6,cR⟩:=Lt (w:=bk) g.heap.size bA.out (k,p) (by omega) F.size;obtain⟨vp,vc,rfl⟩:∃bf a3,c3=V bf (b.length+1) a3:=(bL.dw (S:=λ_=>True) b8 λ_ _=>trivial).form;have dn:t<bk.heap.size:=by omega
   have c7:=bE.2 rfl;have b1:(b++[(k,p)]).length=b.length+1:=by simp
   have bv:=K b1;clear b1;have cb:=ch.out;have a2:=b6.blk cg.out cb
   have b5:(V vp (b.length+1) vc).ownBlock≠N t:=λd=>by
    obtain e|e:=cR t d
    .exact cb e
    omega
   have da:=a2.frozen 2;have cs:=a2.cell 2;simp at cs;have cm:Y g bn γ:=F.trans b6 λc4 cB=> .inr (bA.out.lt c4 cB).1;clear s h o j z ao;go_wp2_with (at_builtin;refine dy rfl (.tmp 68) (.tmp 70) 79 rfl rfl rfl c1 ?_);have cn:Y g (bn.setCell (U t 2 A) (V vp (b.length+1) vc)) γ:=uO cm cA _ _;have cJ:=(Y.refl bn (·=t)).χ (p:=(U t 2 A)) (.inl rfl) (V vp (b.length+1) vc);go_wp2;go_roundg w
   case measure=>omega
   case rel=>exact⟨behind,b++[(k,p)],_,rfl,ck,by omega,by omega,by rw[bv.out];exact c0,(a2.χ 2 (V vp (b.length+1) vc)).to (by simp),(by rw[bv.out];exact aD b8 cJ (λJ d e=>b5 (e▸d))),b5,cn⟩
  have n:=s (.inr (.inr (.inl rfl)));clear s h o j z;go_wp2;all_goals(try rw[tF]);(go_ret2;exact fY.none_ n F)
theorem fY.later{b:List aG×Int}(c:fY n b X G)(a:Y w n γ):fY w b X G:=by obtain⟨v,d,e,f⟩:=c;exact⟨v,d,e.mono λh g _=>aJ a.size g,a.trans f Η⟩
theorem aes(a:BA)(B:a.size<=1000000000)(q:Z)(J:aT q):ν δ 89 #[H a] q (fY q (fA a.data.toList)):=by
 have i:=K (uj a (by omega) q J);have R:=rj a;have e0:((D a.data.toList.toArray):BA)=a:=(nQ rfl).symm;cases h:uV a
 .have o:gD a=2:=by simp[gD,h]
  rw[o] at i;have r:η (fA a.data.toList=([],2)):=K (by unfold fA;rw[e0,h];rfl);clear e0 o h;go_enter func89,ntmps89;go_wp2_with fail;refine i.out.mono ?_;rintro d M ⟨rfl,p⟩;go_wp2;all_goals(go_ret2;exact fY.none_ r p)
 have o:gD a=0:=by simp[gD,h]
 rw[o] at i;have g:=K λ(e:Z)=>agF a ⟨#[47]⟩ e;by_cases x:∃b,a.data.toList=47::b
 .obtain⟨b,L⟩:=x;obtain rfl:=nQ L;have r:η (fA (47::b)=kP b):=K (by unfold fA;rw[h];rfl)
  have g:η (∀e,ν δ 150 #[H ⟨(47::b).toArray⟩,H (D #[47])] e λd F=>d=ξ (σ #[H (D b.toArray),ι true])/\F=e):=K λe=>by
   have:=g.out e;have k:En (47::b) [47]=true:=by simp[En,List.isPrefixOf]
   have f:Ep (47::b) [47]=b:=by simp[Ep,k]
   simp only[k,f] at this;exact this
  clear L e0 o h;go_enter func89,ntmps89;go_wp2_with fail;refine i.out.mono ?_;rintro d M ⟨rfl,p⟩;go_wp2_with fail;refine(g.out _).mono ?_;rintro d n ⟨rfl,rfl⟩;have s:η (ν δ 151 #[H (D b.toArray)] n (fY n (kP b))):=K (XO ⟨b.toArray⟩ (by rw[lf] at B⊢;simp at B;omega) n);go_wp2_with fail;refine s.out.mono ?_;rintro d G w;obtain⟨v,rfl,f,t⟩:=w.later p;obtain⟨m,c,l,rfl⟩:∃m c l,v=V m l c:=by obtain⟨O,_,j,_⟩:=f;obtain⟨C,c,d⟩:=j.form;exact⟨C,c,_,d⟩
  have y:η (fY q (kP b) (ξ (σ #[V m l c,I E (kP b).2])) G):=K ⟨_,rfl,f,t⟩;clear g s w f t i;generalize kP b=Q at*;go_wp2;all_goals(go_ret2;show fY _ _ _ _;rw[r.out];exact y.out)
 have r:η (fA a.data.toList=iU a.data.toList):=K (by
  unfold fA;rw[e0,h];cases z:a.data.toList with
  |nil=>rfl
  |cons c b=>
   by_cases u:c=47
   .exact ahN ⟨b,by rw[z,u]⟩ x
   simp only[if_true];split
   .rename_i j;injection j with k _;exact ahN k u
   rfl)
 have g:η (∀e,ν δ 150 #[H a,H (D #[47])] e λd F=>d=ξ (σ #[H a,ι false])/\F=e):=K λe=>by
  have:=g.out e
  have k:En a.data.toList [47]=false:=by
   cases z:a.data.toList with
   |nil=>rfl
   |cons c b=>
    by_cases u:c=47
    .exact ahN ⟨b,by rw[z,u]⟩ x
    simp[En,List.isPrefixOf];exact λj=>u j.symm
  have f:Ep a.data.toList [47]=a.data.toList:=by simp[Ep,k]
  have P:((D #[47]):BA).data.toList=[47]:=rfl;rw[P,k,f,e0] at this;exact this
 clear e0 o h x;go_enter func89,ntmps89;go_wp2_with fail;refine i.out.mono ?_;rintro d M ⟨rfl,p⟩;go_wp2_with fail;refine(g.out _).mono ?_;rintro d n ⟨rfl,rfl⟩;have s:η (ν δ 152 #[H a] n (fY n (iU a.data.toList))):=K (VC a B n (J.still p));go_wp2_with fail;refine s.out.mono ?_;rintro d G w;obtain⟨v,rfl,f,t⟩:=w.later p;obtain⟨m,c,l,rfl⟩:∃m c l,v=V m l c:=by obtain⟨O,_,j,_⟩:=f;obtain⟨C,c,d⟩:=j.form;exact⟨C,c,_,d⟩
 have y:η (fY q (iU a.data.toList) (ξ (σ #[V m l c,I E (iU a.data.toList).2])) G):=K ⟨_,rfl,f,t⟩;clear g s w f t i;generalize iU a.data.toList=Q at*;go_wp2;all_goals(go_ret2;show fY _ _ _ _;rw[r.out];exact y.out)
structure fV (w:Z) (g:Nat) (r:Rd) (F:Bs):Prop where
 ex:∃hv,θ w g 130 #[hv,ι r.within,I E r.err]/\w.ownsRow 0 5 1 hv r.held.length (mT r.held)/\hv.ownBlock≠N g/\∀k,F k↔(k=g\/hv.ownBlock=N k)
 bP:r.held.length<=512
theorem jA(b:Nat)(l:Rd):ju λm g=>fV m b l g where
 lt h k hk:=by
  obtain⟨⟨hv,c,d,f,a⟩,_⟩:=h;obtain rfl|hk:=(a k).1 hk
  .exact c.lt
  .exact ie d hk
 stay h he:=by obtain⟨⟨hv,c,d,f,a⟩,i⟩:=h;exact⟨⟨hv,(he b ((a b).2 (.inl rfl))).trans c,pY d λe j=>he e ((a e).2 (.inr j)),f,a⟩,i⟩
theorem mI(b:w.ownsRow y u k x d a):∃f e,x=V f d e/\d<=e/\e<=Χ/\(f=A->d=0/\e=0)/\∀c,f=N c->c.off=0/\c.spot=A:=by
 obtain⟨rfl,rfl⟩|⟨l,i,j,rfl,_,_,h,g,_,_⟩:=b.2
 .exact⟨_,_,rfl,Ο _,ai _,λ_=>⟨rfl,rfl⟩,nofun⟩
 exact⟨_,_,rfl,h,g,nofun,λc b=>by injection b with b;subst b;exact⟨rfl,rfl⟩⟩
theorem Im(a:Option ay)(d b e c:Nat):(V a d b).ownBlock=(V a e c).ownBlock:=by cases a<;>rfl
theorem ab7(h:w.ownsRow y u k (V b d M) d a):w.ownsRow y u k (V b 0 M) 0 []:=by
 refine⟨by simp,?_⟩;obtain⟨c,rfl⟩|⟨g,n,f,c,e,i,o,j,l,_⟩:=h.2
 .injection c with c _ e;subst c e;exact .inl ⟨rfl,rfl⟩
 injection c with c _ m;subst c m;exact .inr ⟨g,M,f,rfl,e,i,ai _,j,l,by simp⟩
theorem QC{a:Rd}(g:fV w y a j):ν δ 88 #[π (N (U y 0 A))] w λd m=>d=ξ (H (D a.held.toArray))/\fV m y {a with held:=[]} j/\Ψ w m j j:=by obtain⟨⟨hv,e,f,h,i⟩,B⟩:=g;obtain⟨c,b,rfl,C,q,r,E⟩:=mI f;have x:(convert 113 9 (V c a.held.length b)).run δ w= .ok (H (D a.held.toArray)) w:=Mn (s:=(D a.held.toArray)) f;have n:=e.cell 0;have z:=e.frozen 0;simp at n;have s:j y:=(i y).2 (.inl rfl);unfold Χ at q;have k:=K (ab7 f);have l:Y w (w.setCell (U y 0 A) (V c 0 b)) (·=y):=(Y.refl w (·=y)).χ (p:=(U y 0 A)) (.inl rfl) _;have o:η (fV (w.setCell (U y 0 A) (V c 0 b)) y {a with held:=[]} j):=K ⟨⟨V c 0 b,(e.χ 0 _).to (by simp),aD k.out l (λu d g=>h (by rw[<-g,<-d];exact Im ..)),λd=>h (by rw[<-d];exact Im ..),λt=>by rw[Im c 0 b a.held.length b];exact i t⟩,by simp⟩;have p:η (Ψ w (w.setCell (U y 0 A) (V c 0 b)) j j):=K ((Ψ.refl w j).χ (p:=(U y 0 A)) s _);clear e f h i k l r;go_enter func88,ntmps88;go_wp2;all_goals(go_ret;exact⟨rfl,o.out,p.out⟩)
theorem afa:(prog.info? 5).map (λa=>(a.zero,a.size,a.bytes))=N (N (I bh 0),1,1):=by kernel_rfl
theorem U6{w:Z}(e:Nat){b:Bt}(m:w.ownsRow e 5 1 x b.length (mT b))(f:UInt8)(n:b.length<=1000000)(l:e<=w.heap.size):∃c d,(gJ #[113,113] 113 #[x,V (N (U w.heap.size 0 A)) 1 1]).run δ (w.alloc (ζ #[I bh f.toNat] 5))= .ok c d/\d.ownsRow e 5 1 c (b.length+1) (mT (b++[f]))/\Y w d (λa=>x.ownBlock=N a)/\∀a,c.ownBlock=N a->x.ownBlock=N a\/w.heap.size<=a:=by obtain⟨c,d,h,i,j,k⟩:=nA (w:=w) e 113 5 iZ afa rfl (by decide) m [I bh f.toNat] rfl (by intro o g;simp at g;subst g;rfl) (by unfold Χ;omega) (by omega) l;refine⟨c,d,h,?_,j,k⟩;simpa[mT] using i
def pz(e:Z)(h:Nat)(a:Rd×List aG)(f:Bs)(g:aI)(c:Z):Prop:=
 ∃v b,g=ξ (σ #[v,I E a.1.err])/\gQ c (λd=>e.heap.size<=d/\¬b d) v a.2/\fV c h ⟨a.1.held,a.1.within,0⟩ b/\Ψ e c f b
theorem pz.none_{a:Rd×List aG}{b:Bs}(c:η (a.2=[]/\a.1.err=m))(d:fV n y ⟨a.1.held,a.1.within,0⟩ b)(e:Ψ w n j b):pz w y a j (ξ (σ #[V A 0 0,I E m])) n:=by refine⟨_,b,by rw[c.out.2],?_,d,e⟩;rw[c.out.1];exact gQ.nil _ _
theorem fV.RL{e:Rd}(b:fV w y e j)(a:Bool):fV (w.setCell (U y 1 A) (ι a)) y {e with within:=a} j/\Ψ w (w.setCell (U y 1 A) (ι a)) j j:=by obtain⟨⟨hv,g,h,c,d⟩,i⟩:=b;have k:=(Y.refl w (·=y)).χ (p:=(U y 1 A)) (.inl rfl) (ι a);exact⟨⟨⟨hv,(g.χ 1 _).to (by simp),aD h k (λl f b=>c (b▸f)),c,d⟩,i⟩,(Ψ.refl w j).χ (p:=(U y 1 A)) ((d y).2 (.inl rfl)) _⟩
theorem abx{R:Rd}(b:fV w y R j)(ay:R.err=0)(hF:∀d,d<6->¬j d)(av:aT w)(c:UInt8):ν δ 61 #[π (N (U y 0 A)),I bh c.toNat] w (pz w y (cY R c) j):=by
 have ax:=(jA y R).lt b;obtain⟨a,within,err⟩:=R;simp only at ay;subst ay;have aq:=K hF;by_cases h:c=60
 .subst h;cases within
  .have g:η (cY ⟨a,false,0⟩ 60=(⟨[],true,(ii a).2⟩,(ii a).1)):=K rfl;obtain⟨i,O⟩:=b.RL true;have L:=K (QC i);have ab:=K O;have ak:=b.ex;have G:=b.bP;obtain⟨hv,d,_⟩:=ak;have t:=d.cell 1;have aL:=d.frozen 1;simp at t;have ag:=K av;clear b i O d;go_enter xO,xQ;go_wp2_with fail;refine L.out.mono ?_;rintro f m ⟨rfl,k,P⟩;have r:=ab.out.trans P;have M:η (ν δ 87 #[H (D a.toArray)] m (fY m (ii a))):=K (aeA ⟨a.toArray⟩ (by rw[lf];have:=G;omega) m (ag.out.keeps r.keeps aq.out));have ad:=K k;clear L P k;go_wp2_with fail;refine M.out.mono ?_;rintro f ao ⟨v,rfl,x,Q⟩;have ae:=K ((jA y _).keeps ad.out Q λ_ _ b=>b);have ac:=r.still Q;have an:=r.keeps.size;obtain⟨B,aj,z,rfl⟩:∃B c z,v=V B z c:=by obtain⟨aH,_,b,_⟩:=x;obtain⟨X,c,f⟩:=b.form;exact⟨X,c,_,f⟩
   have ah:=K (x.mono (S':=λe=>w.heap.size<=e/\¬j e) λe l _=>⟨aJ an l,λu=>by have:=ax e u;have:m.heap.size<=e:=l;omega⟩);have aa:η (pz w y (cY ⟨a,false,0⟩ 60) j (ξ (σ #[V B z aj,I E (ii a).2])) ao):=K (by rw[g.out];exact⟨_,j,rfl,ah.out,ae.out,ac⟩);generalize ii a=aP at*;clear M x;go_wp2;all_goals(go_ret2;exact aa.out)
  have g:η ((cY ⟨a,true,0⟩ 60).2=[]/\(cY ⟨a,true,0⟩ 60).1.err=3):=K ⟨rfl,rfl⟩;obtain⟨hv,d,_⟩:=b.ex;have t:=d.cell 1;simp at t;have aG:=K b;clear b d;go_enter xO,xQ;go_wp2;all_goals(go_ret2;exact pz.none_ g aG.out (Ψ.refl _ _))
 have n60:((c.toNat:Int)==60)=false:=ahO (λf=>h (AY.1 (by simp;omega)));by_cases o:c=62/\within=true
 .obtain⟨rfl,rfl⟩:=o;have g:η (cY ⟨a,true,0⟩ 62=(⟨[],false,(fA a).2⟩,(fA a).1)):=K rfl;obtain⟨i,O⟩:=b.RL false;have L:=K (QC i);have ab:=K O;have ak:=b.ex;have G:=b.bP;obtain⟨hv,d,_⟩:=ak;have t:=d.cell 1;have aL:=d.frozen 1;simp at t;have ag:=K av;clear b i O d h n60;go_enter xO,xQ;go_wp2_with fail;refine L.out.mono ?_;rintro f m ⟨rfl,k,P⟩;have r:=ab.out.trans P;have M:η (ν δ 89 #[H (D a.toArray)] m (fY m (fA a))):=K (aes ⟨a.toArray⟩ (by rw[lf];have:=G;omega) m (ag.out.keeps r.keeps aq.out));have ad:=K k;clear L P k;go_wp2_with fail;refine M.out.mono ?_;rintro f ao ⟨v,rfl,x,Q⟩;have ae:=K ((jA y _).keeps ad.out Q λ_ _ b=>b);have ac:=r.still Q;have an:=r.keeps.size;obtain⟨B,aj,z,rfl⟩:∃B c z,v=V B z c:=by obtain⟨aH,_,b,_⟩:=x;obtain⟨X,c,f⟩:=b.form;exact⟨X,c,_,f⟩
  have ah:=K (x.mono (S':=λe=>w.heap.size<=e/\¬j e) λe l _=>⟨aJ an l,λu=>by have:=ax e u;have:m.heap.size<=e:=l;omega⟩);have aa:η (pz w y (cY ⟨a,true,0⟩ 62) j (ξ (σ #[V B z aj,I E (fA a).2])) ao):=K (by rw[g.out];exact⟨_,j,rfl,ah.out,ae.out,ac⟩);generalize fA a=aP at*;clear M x;go_wp2;all_goals(go_ret2;exact aa.out)
 have n:η (cY ⟨a,within,0⟩ c=if a.length=512 then(⟨a,within,4⟩,[]) else(⟨a++[c],within,0⟩,[])):=K (by unfold cY;rw[WB (λb=>h b.1),WB h,WB o]);obtain⟨⟨hv,d,W,al,u⟩,G⟩:=b;simp only at W G d;obtain⟨X,aQ,rfl,_,_,_,_⟩:=mI W;have ap:=K d;have ar:=K W;have af:=K u;have aI:=d.cell 0;have t:=d.cell 1;have aR:=d.frozen 0;have aU:=d.lt;simp at aI t;have aw:j y:=(u y).2 (.inl rfl);clear d W u;by_cases p:a.length=512
 .have g:η ((cY ⟨a,within,0⟩ c).2=[]/\(cY ⟨a,within,0⟩ c).1.err=4):=K (by rw[n.out,ahM p];exact⟨rfl,rfl⟩);have J:η (fV w y ⟨(cY ⟨a,within,0⟩ c).1.held,(cY ⟨a,within,0⟩ c).1.within,0⟩ j):=K (by rw[n.out,ahM p];exact⟨⟨_,ap.out,ar.out,al,af.out⟩,G⟩);have aM:((a.length:Int)==512)=true:=beq_iff_eq.2 (by omega);by_cases s:c=62
  .subst s;have am:within=false:=by cases within<;>simp at o⊢
   subst am;clear p n o h n60;go_enter xO,xQ;go_wp2;all_goals(go_ret2;exact pz.none_ g J.out (Ψ.refl _ _))
  have n62:((c.toNat:Int)==62)=false:=ahO (λf=>s (AY.1 (by simp;omega)));clear p n o h s;go_enter xO,xQ;go_wp2;all_goals(go_ret2;exact pz.none_ g J.out (Ψ.refl _ _))
 have g:η ((cY ⟨a,within,0⟩ c).2=[]/\(cY ⟨a,within,0⟩ c).1.err=0):=K (by rw[n.out,WB p];exact⟨rfl,rfl⟩);have aM:((a.length:Int)==512)=false:=ahO (by omega);obtain⟨aV,S,aF,aC,aA,aE⟩:=U6 (w:=w) 0 ar.out c (by omega) (ai _);obtain⟨F,C,rfl,_⟩:=mI aC;have T:=aA.blk ap.out al
 have az:(V F (a.length+1) C).ownBlock≠N y:=λf=>by
  obtain b|b:=aE y f
  .exact al b
  omega
 have aS:=T.frozen 0;have aK:=T.cell 0;simp at aK;have aB:=(Y.refl S (·=y)).χ (p:=(U y 0 A)) (.inl rfl) (V F (a.length+1) C)
 have au:η (∃q,fV (S.setCell (U y 0 A) (V F (a.length+1) C)) y ⟨a++[c],within,0⟩ q/\Ψ w (S.setCell (U y 0 A) (V F (a.length+1) C)) j q):=K ⟨λe=>e=y\/(V F (a.length+1) C).ownBlock=N e,⟨⟨_,(T.χ 0 _).to (by simp),by
  have:=aD aC aB (λd f b=>az (b▸f))
  simpa using this,az,λe=>Iff.rfl⟩,by simp;omega⟩,⟨(aA.mono λaO aN=> .inl ((af.out aO).2 (.inr aN))).χ (p:=(U y 0 A)) (.inl aw) _,λe l=>by
   obtain rfl|l:=l
   .exact .inl aw
   .obtain b|b:=aE e l
    .exact .inl ((af.out e).2 (.inr b))
    exact .inr b⟩⟩
 have J:η (∃q,fV (S.setCell (U y 0 A) (V F (a.length+1) C)) y ⟨(cY ⟨a,within,0⟩ c).1.held,(cY ⟨a,within,0⟩ c).1.within,0⟩ q/\Ψ w (S.setCell (U y 0 A) (V F (a.length+1) C)) j q):=K (by rw[n.out,WB p];exact au.out);clear au aB T;by_cases s:c=62
 .subst s;have am:within=false:=by cases within<;>simp at o⊢
  subst am;clear p n o h n60;go_enter xO,xQ;go_wp2_with (at_builtin;refine dy rfl (.tmp 54) (.tmp 56) 113 rfl rfl rfl aF ?_);go_wp2
  all_goals
   go_ret2;obtain⟨q,i,k⟩:=J.out;exact pz.none_ g i k
 have n62:((c.toNat:Int)==62)=false:=ahO (λf=>s (AY.1 (by simp;omega)));clear p n o h s;go_enter xO,xQ;go_wp2_with (at_builtin;refine dy rfl (.tmp 54) (.tmp 56) 113 rfl rfl rfl aF ?_);go_wp2
 all_goals
  go_ret2;obtain⟨q,i,k⟩:=J.out;exact pz.none_ g i k
theorem aez(a:Bt):(ii a).1.length<=2:=by
 unfold ii;split
 .simp
 split<;>simp
theorem aeq(a:Bt):(fA a).1.length<=2:=by
 have c:∀a,(kP a).1.length<=2:=λa=>by unfold kP;split<;>simp
 have d:∀a,(iU a).1.length<=2:=λa=>by
  unfold iU;split
  .generalize lZ _ _ _=o;match o with
   |none=>simp[pF]
   |some (b,true)=>simp[pF]
   |some (b,false)=>simp[pF]
  simp
 unfold fA;split
 .split
  .exact c _
  exact d _
 simp
theorem abw(b:Rd)(a:UInt8):(cY b a).2.length<=2:=by
 unfold cY
 repeat' split
 .simp
 .exact aez _
 .exact aeq _
 .simp
 simp
theorem afb:(prog.info? 81).map (λa=>(a.zero,a.size,a.bytes))=N (N (Μ #[I E 0,H (D #[]),V A 0 0,H (D #[])]),4,64):=by kernel_rfl
theorem agS:prog.underlying 76=N (.slice 81):=by kernel_rfl
theorem aeK(b:List TV)(j:∀a∈b,∃g f c,a.2=V g f c):∀h∈mO b,h.oneCell'=true:=by
 intro h e;simp only[mO,J6] at e;obtain⟨a,k,d⟩:=e;obtain⟨g,f,c,i⟩:=j a k;simp at d;obtain rfl|rfl|rfl|rfl:=d
 .rfl
 .rfl
 .rw[i];rfl
 rfl
def ja(g:Z)(c:Nat)(d:Bs)(v:ε)(h:List aG):Prop:=
 ∃a:List TV,a.map (·.1)=h/\g.ownsRow c 81 4 v a.length (mO a)/\(∀e,v.ownBlock=N e->¬d e)/\∀f∈a,aU g (λb=>c<=b/\¬d b/\v.ownBlock≠N b) f.2 f.1.Γ
theorem ja.li(f:ja w y j x O):gQ w (λa=>y<=a/\¬j a) x O:=by obtain⟨e,g,b,h,i⟩:=f;exact⟨e,g,bL.dw b λa c=>⟨(b.lt a c).1,h a c⟩,λl k=>(i l k).mono λm d _=>⟨d.1,d.2.1⟩⟩
theorem ja.goes{c:Bs}(e:ja w y j x O)(d:Ψ w n j c):ja n y c x O:=by
 obtain⟨q,r,h,i,k⟩:=e
 have m:∀b,b<w.heap.size->¬j b->¬c b:=λb z s t=>by
  obtain e|e:=d.fresh b t
  .exact s e
  omega
 exact⟨q,r,aD h d.keeps i,λg l=>m g (ie h l) (i g l),λp o=>((k p o).keeps d.keeps λf a=>a.2.1).stay (Ο _) (λ_ _ _=>rfl)|> λA=>by have:=((k p o).mono (S':=λb=>(y<=b/\¬c b/\x.ownBlock≠N b)/\¬j b) λf a u=>⟨⟨a.1,m f u a.2.1,a.2.2⟩,a.2.1⟩).keeps d.keeps λf a=>a.2;exact this.mono λf a _=>a.1⟩
theorem ja.more{v:ε}{us:List aG}(d:ja w y j v O)(G:gQ w (λa=>y<=a/\¬j a/\v.ownBlock≠N a) i us)(Q:O.length+us.length<=1000000)(A:y<=w.heap.size)(hF:∀a,j a->a<w.heap.size):∃f g,(gJ #[76,76] 76 #[v,i]).run δ w= .ok f g/\ja g y j f (O++us)/\Y w g (λa=>v.ownBlock=N a):=by
 obtain⟨l,o,t,u,z⟩:=d;obtain⟨h,p,H,q⟩:=G;have M:l.length=O.length:=by rw[<-o];simp
 have P:h.length=us.length:=by rw[<-p];simp
 obtain⟨f,g,L,J,a,r⟩:=Lx (w:=w) y 76 81 agS afb rfl (by decide) t H (aeK h λc e=>by obtain⟨K,s,k⟩:=bL.form (q c e);exact⟨K,_,s,k⟩) (by unfold Χ;omega) (by omega) A
 have I:∀x,x<w.heap.size->v.ownBlock≠N x->f.ownBlock≠N x:=λx b hv k=>by
  obtain d|d:=r x k
  .exact hv d
  omega
 refine⟨f,g,L,⟨l++h,by rw[lP,o,p],?_,λn C=> ?_,λc e=> ?_⟩,a⟩
 .have k:mO (l++h)=mO l++mO h:=by simp[mO]
  rw[cL,k];exact J
 .obtain d|d:=r n C
  .exact u n d
  exact λE=>by have:=hF n E;omega
 have main:∀ {S:Bs},(∀x,S x->y<=x/\¬j x/\v.ownBlock≠N x)->aU w S c.2 c.1.Γ->aU g (λa=>y<=a/\¬j a/\f.ownBlock≠N a) c.2 c.1.Γ:=λm B=>((B.mono (S':=λx=>(y<=x/\¬j x/\f.ownBlock≠N x)/\v.ownBlock≠N x) λx b F=>⟨⟨(m x b).1,(m x b).2.1,I x F (m x b).2.2⟩,(m x b).2.2⟩).keeps a λx b=>b.2).mono λx b _=>b.1;obtain e|e:=dO.1 e
 .exact main (λx b=>b) (z c e)
 exact main (λx b=>b) (q c e)
theorem ja.keeps{w g:Z}{F G:Bs}(i:ja w y F x O)(f:Y w g G)(e:∀a,G a->F a):ja g y F x O:=by obtain⟨h,j,k,d,l⟩:=i;exact⟨h,j,aD k f λc m b=>d c m (e c b),d,λp n=>(l p n).keeps f λa o b=>o.2.1 (e a b)⟩
def yg(e:Z)(h:Nat)(b:Rd×List aG)(f:Bs)(g:aI)(c:Z):Prop:=
 ∃v a,g=ξ (σ #[v,I E b.1.err])/\gQ c (λd=>e.heap.size<=d/\¬a d) v b.2/\fV c h b.1 a/\Ψ e c f a
theorem yg.drewN{b:Rd×List aG}(d:yg w y b j X n)(a:Nat):yg w y b j X (n.drewN a):=by obtain⟨v,c,e,f,g,h⟩:=d;exact⟨v,c,e,f.stay (Ο _) λ_ _ _=>rfl,(jA y _).drewN g a,h.drewN a⟩
theorem fV.X0{e:Rd}(b:fV w y e j)(a:Int):fV (w.setCell (U y 2 A) (I E a)) y {e with err:=a} j/\Ψ w (w.setCell (U y 2 A) (I E a)) j j:=by obtain⟨⟨hv,g,h,c,d⟩,i⟩:=b;have k:=(Y.refl w (·=y)).χ (p:=(U y 2 A)) (.inl rfl) (I E a);exact⟨⟨⟨hv,(g.χ 2 _).to (by simp),aD h k (λl f b=>c (b▸f)),c,d⟩,i⟩,(Ψ.refl w j).χ (p:=(U y 2 A)) ((d y).2 (.inl rfl)) _⟩
theorem ja.form(b:ja w y j x O):∃f d a,x=V f d a:=by obtain⟨g,_,b,_⟩:=b;obtain⟨e,a,c,_⟩:=mI b;exact⟨e,_,a,c⟩
theorem ja.lt{w:Z}{F:Bs}(b:ja w y F x O):∀a,x.ownBlock=N a->a<w.heap.size:=by obtain⟨d,_,b,_⟩:=b;exact λa c=>ie b c
theorem gQ.form(b:gQ w j x O):∃f d a,x=V f d a:=by obtain⟨g,_,b,_⟩:=b;obtain⟨e,a,c⟩:=b.form;exact⟨e,_,a,c⟩
theorem Yd{h:Rd}(e:fV w y h j)(hF:∀b,b<6->¬j b)(aM:aT w)(a:BA)(a3:a.size<=1000):ν δ 32 #[π (N (U y 0 A)),H a] w (yg w y (cP h a.data.toList) j):=by
 obtain⟨aW,J,aZ,G,aQ,cells⟩:=LZ w a;have ar:=rj a;have aO:=(jA y h).lt e;have r:=(jA y h).keeps e G λ_ _ e=>e;have ah:=K r;have ae:=K ar;have az:=K cells;have ac:=K hF;have al:=aM.still G;clear ar cells hF r;go_enter func32,ntmps32;go_wp2_with fail;go_loopw [6,8,9,10,16] (λaS _ _ _ T wr=>∃(c:Nat) (d:Rd) (m:List aG) (i:Bs),T=I E c/\c<=a.size/\η (cP h a.data.toList=iX d m (a.data.toList.drop c))/\fV wr y d i/\ja wr J.heap.size i aS m/\m.length<=2*c/\Ψ J wr j i) (λ_ _ _ _ T _=>a.size-(jE T).toNat)
 case atStart=>exact⟨0,h,[],j,rfl,ai _,K rfl,ah.out,⟨[],rfl,db _ _ _ _,by simp[iM],nofun⟩,by simp,Ψ.refl _ _⟩
 clear ah;obtain⟨c,d,m,i,rfl,a1,o,B,R,a4,k⟩:=hrel
 have ao:∀b,b<6->¬i b:=λb Q S=>by
  obtain e|e:=k.fresh b S
  .exact ac.out b Q e
  have:=al.size;omega
 have an:=al.keeps k.keeps ac.out;obtain⟨hv,b,_⟩:=B.ex;have ak:=b.cell 2;simp at ak;have aE:=b.frozen 2;have a0:=b.lt;have ad:=K B;have p:=K R;have aY:i y:=by obtain⟨⟨_,_,_,_,e⟩,_⟩:=B;exact(e y).2 (.inl rfl)
 have q:η (cP h a.data.toList=(d,m))->η (yg w y (cP h a.data.toList) j (ξ (σ #[u6,I E d.err])) wr):=λx=>K (by rw[x.out];exact⟨_,i,rfl,(ja.li p.out).mono λn f _=>⟨aJ G.size f.1,f.2⟩,ad.out,(Ψ.bu G j).trans k⟩);obtain⟨aa,X,W,rfl⟩:=R.form;clear b R B;by_cases a2:c<a.size
 .have aN:(c:Int)<a.size:=by omega
  obtain⟨g,hc0⟩:∃g,a.data.toList[c]? =N g:=⟨_,cT (by have:=ae.out;omega)⟩;have be:wr.cell? (U w.heap.size c A)=N (I bh g.toNat):=by have:=az.out c g hc0;unfold fN at this⊢;rw[k.keeps.block w.heap.size aQ λS=>Nat.lt_irrefl _ (aO _ S)];exact this
  have u:η (a.data.toList.drop c=g::a.data.toList.drop (c+1)):=K (by rw[iN] at hc0;obtain⟨r,aI⟩:=hc0;rw[<-aI];exact List.drop_eq_getElem_cons r);clear hc0;by_cases l:d.err=0
  .have aL:(d.err !=0)=false:=by rw[l];rfl
   have af:η (cP h a.data.toList=iX (cY d g).1 (m++(cY d g).2) (a.data.toList.drop (c+1))):=K (by rw[o.out,u.out,iX,ahM l]);have aR:=abw d g;have aj:=K (abx ad.out l ao an g);clear o u q ao l;go_wp2_with fail;refine aj.out.mono ?_;rintro x bd ⟨v,t,rfl,F,C,z⟩;clear aj;generalize cY d g=aV at*;obtain⟨s,us⟩:=aV;simp only at F C af aR;have O:=p.out.goes z;have aP:=(jA y _).lt C;have au:J.heap.size<=wr.heap.size:=k.keeps.size;obtain⟨a9,ax,aU,P,av⟩:=ja.more O (F.mono λn f _=>⟨aJ au f.1,f.2,λx=>by have:=ja.lt p.out n x;omega⟩) (by omega) (aJ au z.keeps.size) aP;obtain⟨bc,bb,ba,rfl⟩:=F.form;obtain⟨a8,a7,a6,rfl⟩:=P.form;have aq:∀b,(V aa X W).ownBlock=N b->¬t b:=by obtain⟨aB,_,_,aK,_⟩:=O;exact aK
   have ab:=(jA y _).keeps C av λn f Q=>aq n Q f;obtain⟨aw,am⟩:=ab.X0 s.err;obtain⟨a5,M,_,_,ap⟩:=ab.ex;have aD:=M.cell 2;simp at aD;have aX:=M.frozen 2;have aF:Ψ J ax j t:=⟨(k.trans z).keeps.trans av λn f=> .inr (by have r:=p.out.li;obtain⟨aB,_,e,_⟩:=p.out;exact(e.lt n f).1),(k.trans z).fresh⟩;have aA:=aF.trans am;have aH:t y:=(ap y).2 (.inl rfl);have ay:=K (P.keeps (G:=(·=y)) ((Y.refl ax (·=y)).χ (p:=(U y 2 A)) (.inl rfl) (I E s.err)) λn f=>f▸aH);have aC:=K aw;clear F C O P ab aw M am ap aq ak aE an;go_wp2_with (at_builtin;refine dy rfl (.tmp 32) (.tmp 33) 76 rfl rfl rfl aU ?_);go_wp2;go_roundw
   case rel=>exact⟨c+1,⟨s.held,s.within,s.err⟩,m++us,t,by go_num,by omega,af,aC.out,ay.out,by rw[cL];omega,aA⟩
   case measure=>simp[jE];omega
  have aL:(d.err !=0)=true:=bne_iff_ne.2 l;have L:=q (K (by rw[o.out,u.out,iX,WB l]));clear o u q l;go_wp2;go_quiet (fail)
  go_wp2;exact Ω (v:=σ #[V aa X W,I E d.err]) (by simp[ag,results32,go_sem]) rfl (L.out.drewN _)
 obtain rfl:c=a.size:=by omega
 have aN:¬(a.size:Int)<a.size:=by omega
 have L:=q (K (by rw[o.out,List.drop_eq_nil_of_le (by have:=ae.out;omega)];rfl));clear o q;go_wp2;go_quiet (fail)
 go_wp2;exact Ω (v:=σ #[V aa X W,I E d.err]) (by simp[ag,results32,go_sem]) rfl (L.out.drewN _)
theorem aet(a:Z):ν δ 28 #[] a λf e=>∃d c,f=ξ (π (N (U d 0 A)))/\fV e d cQ c/\Ψ a e γ c:=by
 go_enter func28,ntmps28;go_wp2;all_goals go_ret
 all_goals
  refine⟨a.heap.size,λb=>b=a.heap.size,rfl,⟨⟨V A 0 0,θ.new _ _ _,db _ _ _ _,by simp[iM],λb=>by simp[iM]⟩,by simp[cQ]⟩,⟨(Y.refl a γ).alloc _,λb g=> .inr (by omega)⟩⟩
abbrev KV:=El×ε×ε
def gU(b:List KV):List ε:=b.flatMap λa=>[H ⟨a.1.name.toArray⟩,a.2.1,H ⟨a.1.Β.toArray⟩,a.2.2]
theorem Hp(a:List KV):(gU a).length=a.length*4:=by
 induction a with
 |nil=>rfl
 |cons c d b=>simp only[gU,List.flatMap_cons,cL,eI,List.length_nil] at b⊢;omega
theorem Ho(b:List KV)(a:Nat)(c:KV)(d:b[a]? =N c):(gU b)[a*4]? =N (H ⟨c.1.name.toArray⟩)/\(gU b)[a*4+1]? =N c.2.1/\(gU b)[a*4+2]? =N (H ⟨c.1.Β.toArray⟩)/\(gU b)[a*4+3]? =N c.2.2:=by
 induction b generalizing a with
 |nil=>simp at d
 |cons f g e=>
  cases a with
  |zero=>simp at d;subst d;exact⟨rfl,rfl,rfl,rfl⟩
  |succ a=>have:=e a (by simpa using d);rw[show(a+1)*4=a*4+4 by omega];simpa[gU] using this
inductive bX (w:Z) (S:Bs):El->ε->ε->Prop
 |mk (name:Bt) (Γ:At) (Β:Bt) (K0:List KV) (av kv:ε):aU w S av Γ->bL w S 4 kv K0.length (gU K0)->(∀k∈K0,bX w S k.1 k.2.1 k.2.2)->bX w S (.mk name Γ Β (K0.map (·.1))) av kv
theorem bX.stay{w':Z}(f:bX w j Q x i)(c:w.heap.size<=w'.heap.size)(b:∀a,j a->a<w.heap.size->w'.heap[a]? =w.heap[a]?):bX w' j Q x i:=by
 induction f with
 |mk l e m d x i g h _ k=>exact .mk l e m d x i (g.stay c b) (h.stay c b) k
theorem bX.uX{S:Bs}(e:bX w S Q x i)(b:∀a,S a->n.heap[a]? =w.heap[a]?):bX n S Q x i:=by
 induction e with
 |mk j d k c x i f g _ h=>exact .mk j d k c x i (bL.uX f b) (g.uX b) h
theorem bX.mono{S':Bs}(e:bX w j Q x i)(b:∀a,j a->a<w.heap.size->S' a):bX w S' Q x i:=by
 induction e with
 |mk k d l c x i f g _ h=>exact .mk k d l c x i (f.mono b) (g.mono b) h
theorem bX.keeps{w c:Z}{F:Bs}(d:bX w j Q x i)(b:Y w c F)(e:∀a,j a->¬F a):bX c j Q x i:=d.stay b.size λa g f=>b.block a f (e a g)
theorem bX.Γ(a:bX w j Q x i):aU w j x Q.Γ:=by
 cases a
 assumption
theorem bX.Ξ(c:bX w j Q x i):∃a:List KV,Q.Ξ=a.map (·.1)/\bL w j 4 i a.length (gU a)/\∀b∈a,bX w j b.1 b.2.1 b.2.2:=by
 cases c with
 |mk h f k a x i g d e=>exact⟨a,rfl,d,e⟩
theorem aU.form(b:aU w j x W):∃c a,x=V c W.length a:=bL.form b
theorem bX.form(c:bX w j Q x i):(∃b a,x=V b Q.Γ.length a)/\∃b a,i=V b Q.Ξ.length a:=by refine⟨c.Γ.form,?_⟩;obtain⟨f,d,e,_⟩:=c.Ξ;rw[d,List.length_map];exact e.form
def A5(b:Z)(d:At)(c:aI)(a:Z):Prop:=∃v,c=ξ v/\aU a (iQ b.heap.size) v d/\Y b a γ
theorem Mj(a:aU w j x W)(G:W.length<=1000):ν δ 153 #[x] w (A5 w W):=by
 obtain⟨t,k,rfl⟩:=a.form;cases t with
 |none=>
  obtain⟨F,J,B,l,_,_,o,_⟩:=a;injection l with m C n;subst m n;obtain⟨p,rfl⟩:=o rfl;obtain rfl:=kG.1 p;have u:∀w,(binOp .eql 79 (V A 0 0) (V A 0 0)).run δ w= .ok (ι true) w:=λw=>by kernel_rfl
  go_enter func153,ntmps153;go_wp2;all_goals(go_ret;exact⟨_,rfl,aU.nil _ _,Y.refl _ _⟩)
 |some h=>
  have c:Y w (w.alloc (ζ #[] 231)) γ:=(Y.refl w γ).alloc _;have f:(w.alloc (ζ #[] 231)).ownsRow w.heap.size 231 2 (V (N (U w.heap.size 0 A)) 0 0) 0 []:=⟨rfl,.inr ⟨w.heap.size,0,#[],rfl,Ο _,heap_alloc_new w _,Ο _,ai _,rfl,rfl⟩⟩;obtain⟨z,g,y,b,e,i⟩:=Lx (w:=w.alloc (ζ #[] 231)) w.heap.size 79 231 Rm QT rfl (by decide) f (a.keeps c λ_ _ a=>a) (Vo W) (by unfold Χ;omega) (by omega) (by simp);rw[eP,AI] at b;have d:η (aU g (iQ w.heap.size) z W/\Y w g γ):=K ⟨bL.dw b λs q=>(b.lt s q).1,c.trans e λL r=> .inr (by simp[iM] at r;omega)⟩;clear c f b e i a;have u:∀w,(binOp .eql 79 (V (N h) W.length k) (V A 0 0)).run δ w= .ok (ι false) w:=λw=>by kernel_rfl
  go_enter func153,ntmps153;go_wp2_with (at_builtin;refine dy rfl (.tmp 5) (.tmp 6) 79 rfl rfl rfl y ?_);go_wp2;all_goals(go_ret;exact⟨_,rfl,d.out.1,d.out.2⟩)
structure od (w:Z) (p:Nat) (e:El) (more:Bool) (F:Bs):Prop where
 ex:∃(av kv:ε) (K0:List KV) (X:List ε),θ w p 84 #[H (D e.name.toArray),av,H (D e.Β.toArray),kv]/\e.Ξ=K0.map (·.1)/\
  w.ownsRow 0 84 4 kv (K0.length+more.toNat) (gU K0++X)/\kv.ownBlock≠N p/\(∀b,kv.ownBlock=N b->F b)/\
  aU w (λk=>F k/\k≠p/\kv.ownBlock≠N k) av e.Γ/\∀k∈K0,bX w (λk=>F k/\k≠p/\kv.ownBlock≠N k) k.1 k.2.1 k.2.2
 ca:F p
 lt:∀k,F k->k<w.heap.size
 bP:e.Ξ.length+more.toNat<=16
theorem od.stay{w':Z}(c:od w y Q f j)(d:∀a,j a->w'.heap[a]? =w.heap[a]?):od w' y Q f j:=by
 obtain⟨⟨l,x,i,k,m,o,p,q,g,r,s⟩,h,t,n⟩:=c;refine⟨⟨l,x,i,k,(d y h).trans m,o,pY p λe u=>d e (g e u),q,g,bL.uX r λa b=>d a b.1,λa b=>(s a b).uX λa b=>d a b.1⟩,h,λa b=> ?_,n⟩;obtain c|c:=fU a w'.heap.size
 .exact c
 have:=d a b;rw[ll c,ql (t a b)] at this;cases this
theorem od.keeps{w d:Z}{F G:Bs}(b:od w y Q f F)(g:Y w d G)(e:∀a,F a->¬G a):od d y Q f F:=b.stay λa c=>g.block a (b.lt a c) (e a c)
def js(e:Z):Bool->List (Nat×Bs)->List El->Prop
 |_,[],[]=>True
 |inner,a::c,f::b=>od e a.1 f (!inner&& !b.isEmpty) a.2/\(∀g∈c,∀d,a.2 d->¬g.2 d)/\js e false c b
 |_,_,_=>False
theorem js.stay{w':Z}:∀ {e:Bool} {b:List (Nat×Bs)} {f:List El},js w e b f->(∀d∈b,∀c,d.2 c->w'.heap[c]? =w.heap[c]?)->js w' e b f
 |_,[],[],_,_=>trivial
 |_,_::_,_::_,a,g=>⟨a.1.stay (g _ (dP ..)),a.2.1,js.stay a.2.2 λd h=>g d (eZ _ h)⟩
 |_,[],_::_,a,_=>a
 |_,_::_,[],a,_=>a
theorem js.keeps{w i:Z}{c:List (Nat×Bs)}{e:List El}{G:Bs}(j:js w f c e)(l:∀a∈c,∀d,a.2 d->d<w.heap.size)(d:Y w i G)(k:∀a∈c,∀b,a.2 b->¬G b):js i f c e:=j.stay λa g b h=>d.block b (l a g b h) (k a g b h)
theorem js.len  :∀ {d:Bool} {c:List (Nat×Bs)} {b:List El},js w d c b->c.length=b.length
 |_,[],[],_=>rfl
 |_,_::_,_::_,a=>by simp[js.len a.2.2]
 |_,[],_::_,a=>a.elim
 |_,_::_,[],a=>a.elim
theorem js.lt{w:Z}:∀ {f:Bool} {d:List (Nat×Bs)} {g:List El},js w f d g->∀c∈d,∀e,c.2 e->e<w.heap.size
 |_,[],[],_=>nofun
 |_,_::_,_::_,a=>λc b=>by
  obtain rfl|b:=dD.1 b
  .exact a.1.lt
  .exact js.lt a.2.2 c b
 |_,[],_::_,a=>a.elim
 |_,_::_,[],a=>a.elim
def mK(a:List (Nat×Bs)):List ε:=a.reverse.map λb=> π (N ⟨b.1,0,A⟩)
def gX(g:Z)(e:Nat)(b:Bd)(h:Bs):Prop:=
 ∃(d:ε) (c:List (Nat×Bs)),θ g e 133 #[d,I E b.count,ι b.ae,I E 0]/\g.ownsRow 0 228 1 d c.length (mK c)/\d.ownBlock≠N e/\js g true c b.aV/\
  (∀f∈c,¬f.2 e/\∀a,d.ownBlock=N a->¬f.2 a)/\(∀a,h a↔(a=e\/d.ownBlock=N a\/∃f∈c,f.2 a))/\b.aV.length<=5/\b.count<=1000000
theorem jf(e:Nat)(d:Bd):ju λs p=>gX s e d p where
 lt h c a:=by
  obtain⟨o,l,f,g,m,i,n,b,_⟩:=h;obtain rfl|a|⟨k,j,a⟩:=(b c).1 a
  .exact f.lt
  .exact ie g a
  .exact i.lt k j c a
 stay h he:=by obtain⟨o,l,f,g,m,i,n,b,q⟩:=h;exact⟨o,l,(he e ((b e).2 (.inl rfl))).trans f,pY g λd r=>he d ((b d).2 (.inr (.inl r))),m,i.stay λk j c a=>he c ((b c).2 (.inr (.inr ⟨k,j,a⟩))),n,b,q⟩
theorem PZ(a:List (Nat×Bs)):(mK a).length=a.length:=by simp[mK]
theorem acE(b:Nat×Bs)(a:List (Nat×Bs)):(mK (b::a))[a.length]? =N (π (N ⟨b.1,0,A⟩)):=by simp[mK]
theorem Db(j:w.ownsRow y u k x d a)(h:0<d):∃b e,x=V (N (U b 0 A)) d e/\d<=e/\e<=Χ/\∀f g,a[f]? =N g->w.cell? (U b f A)=N g:=by
 obtain⟨_,rfl⟩|⟨b,i,o,rfl,p,m,h,l,q,n⟩:=j.2
 .omega
 refine⟨b,i,rfl,h,l,λf g c=> ?_⟩;rw[<-n,kD] at c;split at c
 .simpa[fN,m] using c
 cases c
theorem Oz(f:θ w y 133 #[x,i,t,B]){p:Nat×Bs}{fr:List (Nat×Bs)}(a:w.ownsRow 0 228 1 x (fr.length+1) (mK (p::fr)))(n:fr.length<=100):ν δ 154 #[π (N (U y 0 A))] w λd h=>d=ξ (π (N ⟨p.1,0,A⟩))/\∃g,h=w.drewN g:=by
 obtain⟨o,q,rfl,m,e,b⟩:=Db a (by omega);have j:=b _ _ (acE p fr);have c:=f.cell 0;simp at c;unfold Χ at e;have k:IntKind.i64.wrap ((fr.length:Int)+1-1)=fr.length:=by rw[vi _ (by omega)];omega
 have l:IntKind.i64.wrap (((fr.length+1:Nat):Int)-1)=fr.length:=by rw[vi _ (by omega)];omega
 clear a b;go_enter func154,ntmps154;go_wp2_with fail;go_quiet (fail)
 go_wp2;all_goals(go_ret;exact⟨rfl,_,rfl⟩)
def eY(a:aG)(b:ε):ε:=Μ #[I E a.Θ,H (D a.name.toArray),b,H (D a.Β.toArray)]
def DD(a:aG)(b:ε):Obj:=ζ #[I E a.Θ,H (D a.name.toArray),b,H (D a.Β.toArray)] 81
def Fv(h:Z)(c:Nat)(g:ε)(a:Bd)(e:Int)(f:aI)(d:Z):Prop:=
 f=ξ (I E e)/\Y h d (·=c)/\∃b:Int,θ d c 133 #[g,I E b,ι a.ae,I E 0]/\(e=0->b=jL a)
theorem Ys{q:Bd}(S:θ w y 133 #[V b k d,I E q.count,ι q.ae,I E 0])(m:k=q.aV.length)(aF:k<=5)(aD:q.count<=1000000)(f:aG){s:Option ay}{r:Nat}(au:x=V s M r):ν δ 90 #[π (N (U y 0 A)),eY f x] w (Fv w y (V b k d) q (gj q f)):=by
 subst au;have aA:=S.lt;have ac:Y w (w.alloc (DD f (V s M r))) (·=y):=(Y.refl w (·=y)).alloc _;have O:=S.alloc (DD f (V s M r));have ad:θ (w.alloc (DD f (V s M r))) w.heap.size 81 #[I E f.Θ,H (D f.name.toArray),V s M r,H (D f.Β.toArray)]:=θ.new _ _ _;unfold DD at ac O ad;unfold eY;have L:=K ac;have G:=K O;have an:=O.cell 0;have ao:=O.cell 1;have ap:=O.cell 2;have az:=O.frozen 1;have ax:=ad.cell 0;simp at an ao ap ax;have aE:(q.count:Int)<=1000000:=by omega
 have aH:¬y=w.heap.size:=by omega
 have aI:¬w.heap.size=y:=by omega
 have after:∀p:Int,θ ((w.setCell (U y 1 A) (I E p)).alloc (ζ #[I E f.Θ,H (D f.name.toArray),V s M r,H (D f.Β.toArray)] 81)) y 133 #[V b k d,I E p,ι q.ae,I E 0]/\Y w ((w.setCell (U y 1 A) (I E p)).alloc (ζ #[I E f.Θ,H (D f.name.toArray),V s M r,H (D f.Β.toArray)] 81)) (·=y):=λp=>⟨((S.χ 1 (I E p)).to (by simp)).alloc _,((Y.refl w (·=y)).χ (p:=(U y 1 A)) (.inl rfl) _).alloc _⟩;have again:∀p R:Int,θ (((w.setCell (U y 1 A) (I E p)).setCell (U y 1 A) (I E R)).alloc (ζ #[I E f.Θ,H (D f.name.toArray),V s M r,H (D f.Β.toArray)] 81)) y 133 #[V b k d,I E R,ι q.ae,I E 0]/\Y w (((w.setCell (U y 1 A) (I E p)).setCell (U y 1 A) (I E R)).alloc (ζ #[I E f.Θ,H (D f.name.toArray),V s M r,H (D f.Β.toArray)] 81)) (·=y):=λp R=>⟨(((S.χ 1 (I E p)).χ 1 (I E R)).to (by simp)).alloc _,(((Y.refl w (·=y)).χ (p:=(U y 1 A)) (.inl rfl) _).χ (p:=(U y 1 A)) (.inl rfl) _).alloc _⟩;have Q:=K after;have al:=K again;clear S ac O ad after again;obtain⟨e,z,t,B⟩:=f;obtain⟨g,a,j⟩:=q;simp only at*;have n:(j=true\/e<1\/3<e\/(g=[]/\e≠1))->η (gj ⟨g,a,j⟩ ⟨e,z,t,B⟩=3):=λh=>K (by unfold gj;rw[ahM h]);have good:¬(j=true\/e<1\/3<e\/(g=[]/\e≠1))->η (gj ⟨g,a,j⟩ ⟨e,z,t,B⟩=if 1<k/\64<jL ⟨g,a,j⟩ then 4 else 0):=λh=>K (by unfold gj;rw[WB h,m]);have af:∀ {C:Z},η (gj ⟨g,a,j⟩ ⟨e,z,t,B⟩=3)->Y w C (·=y)->θ C y 133 #[V b k d,I E a,ι j,I E 0]->Fv w y (V b k d) ⟨g,a,j⟩ (gj ⟨g,a,j⟩ ⟨e,z,t,B⟩) (ξ (I E 3)) C:=λc ab am=>by rw[c.out];exact⟨rfl,ab,_,am,λh=>by omega⟩
 have J:η (∀C,η (gj ⟨g,a,j⟩ ⟨e,z,t,B⟩=3)->Y w C (·=y)->θ C y 133 #[V b k d,I E a,ι j,I E 0]->Fv w y (V b k d) ⟨g,a,j⟩ (gj ⟨g,a,j⟩ ⟨e,z,t,B⟩) (ξ (I E 3)) C):=K λC=> @af C;clear af;cases j
 .by_cases ag:e<1
  .have c:=n (.inr (.inl ag));clear n good;by_cases i:k=0
   .have u:((k:Int)==0)=true:=beq_iff_eq.2 (by omega);clear m i;go_enter qu,qv;go_wp2;all_goals(go_ret;exact J.out _ c L.out G.out)
   have u:((k:Int)==0)=false:=ahO (by omega);clear m i;go_enter qu,qv;go_wp2;all_goals(go_ret;exact J.out _ c L.out G.out)
  by_cases ah:3<e
  .have c:=n (.inr (.inr (.inl ah)));clear n good;by_cases i:k=0
   .have u:((k:Int)==0)=true:=beq_iff_eq.2 (by omega);clear m i;go_enter qu,qv;go_wp2;all_goals(go_ret;exact J.out _ c L.out G.out)
   have u:((k:Int)==0)=false:=ahO (by omega);clear m i;go_enter qu,qv;go_wp2;all_goals(go_ret;exact J.out _ c L.out G.out)
  have aB:decide (e<1)=false:=decide_eq_false ag;have aC:decide (3<e)=false:=decide_eq_false ah;by_cases i:k=0
  .have u:((k:Int)==0)=true:=beq_iff_eq.2 (by omega);have F:g=[]:=kG.1 (by omega);by_cases aa:e=1
   .have c:η (gj ⟨g,a,false⟩ ⟨e,z,t,B⟩=0):=K (by rw[(good (by simp;omega)).out,WB (by omega)]);have P:η (jL ⟨g,a,false⟩=a+1):=K (by unfold jL;rw[WB (by simp only;omega)]);subst i aa;clear n good u m F;have l:=Q.out ((a:Int)+1);have T:=l.1.cell 0;have W:=l.1.cell 1;simp only[gz_] at T W;have o:=K l;clear l;go_enter qu,qv;go_wp2
    all_goals
     go_ret;exact⟨jT (by rw[c.out]),o.out.2,_,o.out.1,λ_=>by rw[P.out];first|rfl|omega⟩
   have c:=n (.inr (.inr (.inr ⟨F,aa⟩)));have aJ:(e !=1)=true:=bne_iff_ne.2 aa;clear n good m i F aa;go_enter qu,qv;go_wp2;all_goals(go_ret;exact J.out _ c L.out G.out)
  have F:g≠[]:=λaq=>i (by rw[m,aq];rfl);have u:((k:Int)==0)=false:=ahO (by omega);by_cases ai:k=1
  .have aj:((k:Int)==1)=true:=beq_iff_eq.2 (by omega);have ak:¬(1:Int)<k:=by omega
   have c:η (gj ⟨g,a,false⟩ ⟨e,z,t,B⟩=0):=K (by rw[(good (by simp;exact⟨by omega,by omega,λh=>ahN h F⟩)).out,WB (by omega)]);have P:η (jL ⟨g,a,false⟩=1):=K (by unfold jL;rw[ahM (by simp only;omega)]);have av:=(Q.out 0).1.cell 0;have aw:=(Q.out 0).1.cell 1;have aK:=(Q.out 0).1.frozen 1;have l:=al.out 0 1;have T:=l.1.cell 0;have W:=l.1.cell 1;simp only[gz_] at av aw T W;have o:=K l;subst ai;clear n good m i F l aj ak u;go_enter qu,qv;go_wp2
   all_goals
    go_ret;exact⟨jT (by rw[c.out]),o.out.2,_,o.out.1,λ_=>by rw[P.out];first|rfl|omega⟩
  have aj:((k:Int)==1)=false:=ahO (by omega);have ak:(1:Int)<k:=by omega
  have P:η (jL ⟨g,a,false⟩=a+1):=K (by unfold jL;rw[WB (by simp only;omega)])
  have c:η (gj ⟨g,a,false⟩ ⟨e,z,t,B⟩=if 64<a+1 then 4 else 0):=K (by
   rw[(good (by simp;exact⟨by omega,by omega,λh=>ahN h F⟩)).out,P.out];by_cases h:64<a+1
   .rw[ahM ⟨by omega,h⟩,ahM h]
   rw[WB (λab=>h ab.2),WB h])
  have l:=Q.out ((a:Int)+1);have T:=l.1.cell 0;have W:=l.1.cell 1;simp only[gz_] at T W;have o:=K l;clear n good m i F l ai;by_cases X:64<a+1
  .rw[ahM X] at c;have ar:(64:Int)<(a:Int)+1:=by omega
   clear X;go_enter qu,qv;go_wp2
   all_goals
    go_ret;exact⟨jT (by rw[c.out]),o.out.2,_,o.out.1,λh=>by rw[c.out] at h;omega⟩
  rw[WB X] at c;have ar:¬(64:Int)<(a:Int)+1:=by omega
  clear X;go_enter qu,qv;go_wp2
  all_goals
   go_ret;exact⟨jT (by rw[c.out]),o.out.2,_,o.out.1,λ_=>by rw[P.out];first|rfl|omega⟩
 have c:=n (.inl rfl);clear n good;by_cases i:k=0
 .have u:((k:Int)==0)=true:=beq_iff_eq.2 (by omega);clear m i;go_enter qu,qv;go_wp2;all_goals(go_ret;exact J.out _ c L.out G.out)
 have u:((k:Int)==0)=false:=ahO (by omega);clear m i;go_enter qu,qv;go_wp2;all_goals(go_ret;exact J.out _ c L.out G.out)
theorem aeC{a:Nat}{j:ε}{l c:Bt}(q:θ w y 133 #[V (N (U d 0 A)) a M,x,i,t])(g:θ w k 84 #[H (D l.toArray),B,H (D c.toArray),j])(W:2<=a)(aa:a<=100)(s:∀n,Y w n γ->ν δ 154 #[π (N (U y 0 A))] n λe h=>e=ξ (π (N (U k 0 A)))/\∃a,h=n.drewN a)(m:aG){F:ε}{p o:Nat}(O:F=V b p o)(P:c.length+m.Β.length<=9223372036854775807):ν δ 93 #[π (N (U y 0 A)),eY m F] w λe h=>e=ξ (I E 0)/\θ h k 84 #[H (D l.toArray),B,H ⟨(c++m.Β).toArray⟩,j]/\Y w h (·=k):=by
 subst O;unfold eY;obtain⟨z,C,ae,f⟩:=m;simp only at*;have u:Y w (w.alloc (ζ #[I E z,H (D C.toArray),V b p o,H (D f.toArray)] 81)) γ:=(Y.refl w γ).alloc _;have J:=K s;have L:=q.cell 0;have Q:=g.cell 2;have R:=g.frozen 2;simp at L Q;have X:(1:Int)<a:=by omega
 have S:=q.lt;have ad:=g.lt;have T:=λw=>run_string_add_sum (P:=δ) w ⟨c.toArray⟩ ⟨f.toArray⟩ P;have r:=K u;have G:=K g;clear s q g u;have t3:(w.alloc (ζ #[I E z,H (D C.toArray),V b p o,H (D f.toArray)] 81)).cell? (U w.heap.size 3 A)=N (H (D f.toArray)):=by simp
 have ab:¬k=w.heap.size:=by omega
 have ac:¬w.heap.size=k:=by omega
 go_enter func93,ntmps93;go_wp2_with fail;go_region_with ((go_at_call 154;refine(J.out _ ?_).mono ?_;(exact r.out.drewN _);rintro e h ⟨rfl,a,rfl⟩))
 all_goals
  go_wp2;go_ret;refine⟨rfl,?_,?_⟩
  .have e:(#[H (D l.toArray),B,H (D c.toArray),j]:Array ε).setIfInBounds 2 (H (((D c.toArray):BA)++⟨f.toArray⟩))=#[H (D l.toArray),B,H ⟨(c++f).toArray⟩,j]:=by rw[ByteArray.mk_append_mk];simp
   exact(((G.out.alloc _).drewN _).χ 2 _).to e
  .exact Y.χ (F:=(·=k)) (r.out.any.drewN _) (p:=(U k 2 A)) (.inl rfl) _
theorem aeD(c:θ w y 133 #[V b k d,x,i,t])(L:k<2)(h:aG){q:Option ay}{p:Nat}(z:B=V q M p)(Q:h.Β.length<=1000000000):ν δ 93 #[π (N (U y 0 A)),eY h B] w λa j=>a=ξ (I E (if trimS h.Β de=[] then 0 else 3))/\Y w j γ:=by
 subst z;unfold eY;obtain⟨C,F,R,e⟩:=h;simp only at*;have r:Y w (w.alloc (ζ #[I E C,H (D F.toArray),V q M p,H (D e.toArray)] 81)) γ:=(Y.refl w γ).alloc _;have u:=c.cell 0;simp at u;have O:¬(1:Int)<k:=by omega
 have J:=c.lt;have n:=K r;have o:η (∀f,ν δ 82 #[H (D e.toArray),H (D #[32,9,10,13])] f λa j=>a=ξ (H ⟨(trimS e de).toArray⟩)/\Y f j γ):=K λf=>by have m:=Any.strings_Trim_laid Q7 Jf ⟨e.toArray⟩ ⟨#[32,9,10,13]⟩ f (by rw[lf];omega) (by decide) Gq;change ν δ 82 _ _ _ at m;refine m.mono ?_;rintro a j ⟨rfl,c⟩;exact⟨rfl,Y.of_below c γ⟩
 generalize trimS e de=s at*;clear c r;by_cases g:s=[]
 .subst g;rw[ahM rfl];go_enter func93,ntmps93;go_wp2_with fail;refine(o.out _).mono ?_;rintro a G ⟨rfl,l⟩;go_wp2;all_goals(go_ret;exact⟨rfl,n.out.trans l Η⟩)
 rw[WB g];have P:s.isEmpty=false:=by simpa using g
 clear g;go_enter func93,ntmps93;go_wp2_with fail;refine(o.out _).mono ?_;rintro a G ⟨rfl,l⟩;go_wp2;all_goals(go_ret;exact⟨rfl,n.out.trans l Η⟩)
abbrev lV(f:Z)(c e:Nat):Prop:=∀a,Y f a γ->ν δ 154 #[π (N (U c 0 A))] a λb g=>b=ξ (π (N (U e 0 A)))/\∃d,g=a.drewN d
def dT(b:Int)(d:Bt)(a:ε)(e:Bt)(c:ε):ε:=Μ #[I E b,H (D d.toArray),a,H (D e.toArray),c]
def fy:ε:=dT 0 [] (V A 0 0) [] (V A 0 0)
theorem Gh(b:θ w y 133 #[x,i,t,B]):(∀a v,((w.drewN a).setCell (U y 0 A) v).cell? (U y 0 A)=N v)/\(∀a v,((w.drewN a).setCell (U y 0 A) v).cell? (U y 2 A)=N t)/\∀a v,((w.drewN a).setCell (U y 0 A) v).frozen? (U y 2 A)=false:=by
 refine⟨λa v=> ?_,λa v=> ?_,λa v=> ?_⟩
 .have:=((b.drewN a).χ 0 v).cell 0;simpa using this
 .have:=((b.drewN a).χ 0 v).cell 2;simpa using this
 exact((b.drewN a).χ 0 v).frozen 2
theorem Y.bC(a:Y w n (·=y)):Y w (n.setCell (U y k A) x) (·=y):=a.χ (p:=(U y k A)) (.inl rfl) x
theorem Y.bG{k i:Nat}{u:ε}(a:Y w n j)(b:w.heap.size<=k):Y w (n.setCell (U k i A) u) j:=a.χ (p:=(U k i A)) (.inr b) u
theorem Y.ab5(b:Y w n λa=>a=y\/a=k):Y w (n.setCell (U y d A) x) λa=>a=y\/a=k:=b.χ (p:=(U y d A)) (.inl (.inl rfl)) x
theorem Y.ab6(b:Y w n λa=>a=y\/a=k):Y w (n.setCell (U k d A) x) λa=>a=y\/a=k:=b.χ (p:=(U k d A)) (.inl (.inr rfl)) x
theorem XP{u C:ε}{c J:Bt}(j:θ w y 133 #[x,i,t,B])(a:θ w k 84 #[H (D c.toArray),u,H (D J.toArray),C])(l:lV w y k)(e:aG){r:ε}(z:r=V b d M)(m:c≠e.name):ν δ 92 #[π (N (U y 0 A)),eY e r] w λh G=>h=ξ (σ #[fy,ι false,I E 3])/\Y w G γ:=by
 subst z;unfold eY;obtain⟨p,f,R,q⟩:=e;simp only at*;have n:Y w (w.alloc (ζ #[I E p,H (D f.toArray),V b d M,H (D q.toArray)] 81)) γ:=(Y.refl w γ).alloc _;have o:Y w ((w.alloc (ζ #[I E p,H (D f.toArray),V b d M,H (D q.toArray)] 81)).alloc (ζ #[I E 0,H (D #[]),V A 0 0,H (D #[]),V A 0 0] 86)) γ:=n.alloc _;have F:=a.cell 0;simp at F;have s:=K l;have g:=K o;have O:=j.lt;have Q:=a.lt;have L:(c==f)=false:=ahO m;clear l j a n o m;go_enter func92,JR;go_wp2_with fail;refine(s.out _ ?_).mono ?_
 .exact g.out
 rintro h S ⟨rfl,P,rfl⟩;go_wp2_with fail;go_quiet (fail)
 go_wp2;refine Ω (v:=σ #[fy,ι false,I E 3]) (by simp[ag,JU,go_sem,fy,dT]) rfl ⟨rfl,?_⟩;repeat (with_reducible first|refine Y.drewN ?_ _|refine Y.drew ?_|refine Y.bG ?_ (by omega)|exact g.out)
theorem XS{c O:Bt}(a:θ w y 133 #[V (N (U d 0 A)) 1 M,x,ι false,I E 0])(T:1<=M)(h:θ w k 84 #[H (D c.toArray),i,H (D O.toArray),t])(p:lV w y k)(l:aG){f e:Nat}(G:B=V b f e)(J:c=l.name):ν δ 92 #[π (N (U y 0 A)),eY l B] w λo s=>o=ξ (σ #[dT 3 [] (V A 0 0) [] (V A 0 0),ι true,I E 0])/\θ s y 133 #[V (N (U d 0 A)) 0 M,x,ι true,I E 0]/\Y w s (·=y):=by
 subst G;unfold eY;obtain⟨j,ae,ad,m⟩:=l;simp only at*;subst J;have q:Y w (w.alloc (ζ #[I E j,H (D c.toArray),V b f e,H (D m.toArray)] 81)) γ:=(Y.refl w γ).alloc _;have r:Y w ((w.alloc (ζ #[I E j,H (D c.toArray),V b f e,H (D m.toArray)] 81)).alloc (ζ #[I E 0,H (D #[]),V A 0 0,H (D #[]),V A 0 0] 86)) γ:=q.alloc _;have L:=h.cell 0;have C:=a.cell 0;have F:=a.cell 2;have Q:=a.frozen 0;have R:=a.frozen 2;simp at L C F;have z:=K p;have n:=K r;have P:=K a;have S:=a.lt;have X:=h.lt;have g:=(a.alloc (ζ #[I E j,H (D c.toArray),V b f e,H (D m.toArray)] 81)).alloc (ζ #[I E 0,H (D #[]),V A 0 0,H (D #[]),V A 0 0] 86);obtain⟨aa,ab,ac⟩:=Gh g;have u:=K g;clear p a h q r g;go_enter func92,JR;go_wp2_with fail;refine(z.out _ ?_).mono ?_
 .exact n.out
 rintro o af ⟨rfl,W,rfl⟩;go_wp2_with fail;go_quiet (fail)
 go_wp2_with fail;go_region
 go_wp2;refine Ω (v:=σ #[dT 3 [] (V A 0 0) [] (V A 0 0),ι true,I E 0]) (by simp[ag,JU,go_sem,dT]) rfl ⟨rfl,?_,?_⟩
 .refine θ.to (cs:=(#[V (N (U d 0 A)) 1 M,x,ι false,I E 0].setIfInBounds 0 (V (N (U d 0 A)) 0 M)).setIfInBounds 2 (ι true)) ?_ (by simp);repeat (with_reducible first|refine θ.drewN ?_ _|refine θ.drew ?_|refine θ.far ?_ (by simp;omega) _|refine θ.χ ?_ _ _|exact u.out)
 repeat (with_reducible first|refine Y.drewN ?_ _|refine Y.drew ?_|refine Y.bC ?_|refine Y.bG ?_ (by omega)|exact n.out.any)
theorem Gi(h:θ w y 133 #[x,i,t,B]){d e f g:ε}(b:θ w k 84 #[d,e,f,g]):y≠k/\(∀a v,((w.drewN a).setCell (U y 0 A) v).cell? (U k 0 A)=N d)/\(∀a v,((w.drewN a).setCell (U y 0 A) v).cell? (U k 1 A)=N e)/\(∀a v,((w.drewN a).setCell (U y 0 A) v).cell? (U k 2 A)=N f)/\∀a v,((w.drewN a).setCell (U y 0 A) v).cell? (U k 3 A)=N g:=by
 have j:y≠k:=λc=>by subst c;unfold θ at h b;rw[h] at b;injection b with b;injection b with _ b;exact ahN b (by decide)
 have far:=λa v=>((b.drewN a).far (p:=(U y 0 A)) (λc=>j c.symm) v);refine⟨j,λa v=> ?_,λa v=> ?_,λa v=> ?_,λa v=> ?_⟩
 .simpa using(far a v).cell 0
 .simpa using(far a v).cell 1
 .simpa using(far a v).cell 2
 simpa using(far a v).cell 3
theorem XT{a n:Bt}(f:θ w y 133 #[V (N (U d 0 A)) 2 M,x,ι false,I E 0])(ae:2<=M)(h:θ w k 84 #[H (D a.toArray),i,H (D n.toArray),t])(q:lV w y k)(m:aG){e c:Nat}(S:B=V b e c)(X:a=m.name){L C:Option ay}{J G z u:Nat}(T:i=V L J G)(W:t=V C z u):ν δ 92 #[π (N (U y 0 A)),eY m B] w λp O=>p=ξ (σ #[dT 2 a i n t,ι true,I E 0])/\θ O y 133 #[V (N (U d 0 A)) 1 M,x,ι false,I E 0]/\Y w O (·=y):=by
 subst S T W;unfold eY;obtain⟨j,ao,an,l⟩:=m;simp only at*;subst X;have r:Y w (w.alloc (ζ #[I E j,H (D a.toArray),V b e c,H (D l.toArray)] 81)) γ:=(Y.refl w γ).alloc _;have s:Y w ((w.alloc (ζ #[I E j,H (D a.toArray),V b e c,H (D l.toArray)] 81)).alloc (ζ #[I E 0,H (D #[]),V A 0 0,H (D #[]),V A 0 0] 86)) γ:=r.alloc _;have aa:=h.cell 0;have R:=f.cell 0;have ab:=f.frozen 0;simp at aa R;have Q:=K q;have o:=K s;have ac:=f.lt;have ah:=h.lt;have g:=(f.alloc (ζ #[I E j,H (D a.toArray),V b e c,H (D l.toArray)] 81)).alloc (ζ #[I E 0,H (D #[]),V A 0 0,H (D #[]),V A 0 0] 86);have F:=(h.alloc (ζ #[I E j,H (D a.toArray),V b e c,H (D l.toArray)] 81)).alloc (ζ #[I E 0,H (D #[]),V A 0 0,H (D #[]),V A 0 0] 86);obtain⟨am,_,_⟩:=Gh g;obtain⟨ad,ai,aj,ak,al⟩:=Gi g F;have P:=K g;clear q f h r s g F;go_enter func92,JR;go_wp2_with fail;refine(Q.out _ ?_).mono ?_
 .exact o.out
 rintro p ap ⟨rfl,af,rfl⟩;go_wp2_with fail;go_quiet (fail)
 go_wp2_with fail;go_region
 go_wp2;refine Ω (v:=σ #[dT 2 a (V L J G) n (V C z u),ι true,I E 0]) (by simp[ag,JU,go_sem,dT]) rfl ⟨rfl,?_,?_⟩
 .refine θ.to (cs:=#[V (N (U d 0 A)) 2 M,x,ι false,I E 0].setIfInBounds 0 (V (N (U d 0 A)) 1 M)) ?_ (by simp);repeat (with_reducible first|refine θ.drewN ?_ _|refine θ.drew ?_|refine θ.far ?_ (by simp;omega) _|refine θ.χ ?_ _ _|exact P.out)
 repeat (with_reducible first|refine Y.drewN ?_ _|refine Y.drew ?_|refine Y.bC ?_|refine Y.bG ?_ (by omega)|exact o.out.any)
theorem acf{c:Nat}(g:w.ownsRow y u k (V (N (U c 0 A)) d M) d a)(e:Nat)(f:ε):(w.setCell (U c e A) f).ownsRow y u k (V (N (U c 0 A)) d M) d (a.set e f):=by
 refine⟨by simpa using g.1,?_⟩;obtain⟨b,_⟩|⟨r,q,h,b,i,j,l,m,n,o⟩:=g.2
 .cases b
 injection b with b _ p;injection b with b;injection b with b;subst b p;refine .inr ⟨c,M,h.setIfInBounds e f,rfl,i,?_,l,m,by simpa using n,?_⟩
 .simp[World.setCell,Array.getElem?_modify,j]
 rw[<-o,Array.toList_setIfInBounds,List.take_set]
theorem UO(m:k≠y)(n:w.ownsRow 0 84 4 (V (N (U k 0 A)) d M) d a):(∀c v e g,a[e]? =N g->((w.drewN c).setCell (U y 0 A) v).cell? (U k e A)=N g)/\∀c v e,((w.drewN c).setCell (U y 0 A) v).frozen? (U k e A)=false:=by
 obtain⟨b,_⟩|⟨p,o,i,b,q,j,r,s,t,l⟩:=n.2
 .cases b
 injection b with b _ u;injection b with b;injection b with b;subst b;have h:θ w k 84 i:=j;have far:=λc v=>((h.drewN c).far (p:=(U y 0 A)) m v);refine⟨λc v e g f=> ?_,λc v e=>(far c v).frozen e⟩;rw[(far c v).cell,<-Ee];rw[<-l,kD] at f;split at f
 .exact f
 cases f
theorem ab9(b:w.ownsRow y u k x d a)(c:Nat):(w.drewN c).ownsRow y u k x d a:=b
theorem ab8(b:w.ownsRow y u k x d a):w.drew.ownsRow y u k x d a:=b
theorem acb{c b f:Nat}(g:w.ownsRow y u k (V (N (U c 0 A)) d M) d a)(i:c≠b):(w.setCell (U b f A) x).ownsRow y u k (V (N (U c 0 A)) d M) d a:=
 aD g ((Y.refl w (·=b)).χ (p:=(U b f A)) (.inl rfl) x) λj e h=>by injection e with e;exact i (e.trans h)
theorem ach{b:List ε}(c:w.ownsRow y u k x d a)(e:a=b):w.ownsRow y u k x d b:=e▸c
theorem adv(a b:List ε)(c d e f:ε)(g:b.length=4):((((a++b).set a.length c).set (a.length+1) d).set (a.length+2) e).set (a.length+3) f=a++[c,d,e,f]:=by
 match b,g with
 |[h,i,j,k],_=>simp
theorem XU{f m c p X:Nat}{be bv:ε}{e al:Bt}(u:θ w y 133 #[V (N (U M 0 A)) (m+1) f,x,ι false,I E 0])(b4:m+1<=f)(bN:2<=m)(b0:m<=100)(O:θ w k 84 #[H (D e.toArray),i,H (D al.toArray),t])(aq:lV w y k)(av:θ w d 84 #[B,be,bv,V (N (U p 0 A)) (c+1) X])(bF:c<=100)(au:∀J,θ J y 133 #[V (N (U M 0 A)) m f,x,ι false,I E 0]->Y w J (·=y)->ν δ 154 #[π (N (U y 0 A))] J λs G=>s=ξ (π (N (U d 0 A)))/\∃a3,G=J.drewN a3){q:List ε}(L:w.ownsRow 0 84 4 (V (N (U p 0 A)) (c+1) X) (c+1) (a++q))(S:a.length=c*4)(br:p≠y)(cb:p≠k)(ac:aG){a5:ε}{o n:Nat}(bi:a5=V b o n)(bq:e=ac.name){a8 a2:Option ay}{a7 a6 a1 a0:Nat}(bk:i=V a8 a7 a6)(bn:t=V a2 a1 a0):ν δ 92 #[π (N (U y 0 A)),eY ac a5] w λs G=>s=ξ (σ #[fy,ι false,I E 0])/\θ G y 133 #[V (N (U M 0 A)) m f,x,ι false,I E 0]/\G.ownsRow 0 84 4 (V (N (U p 0 A)) (c+1) X) (c+1) (a++[H (D e.toArray),i,H (D al.toArray),t])/\Y w G (λan=>an=y\/an=p):=by
 subst bi bk bn;unfold eY;obtain⟨z,cm,cl,F⟩:=ac;simp only at*;subst bq;have aw:Y w (w.alloc (ζ #[I E z,H (D e.toArray),V b o n,H (D F.toArray)] 81)) γ:=(Y.refl w γ).alloc _;have W:Y w ((w.alloc (ζ #[I E z,H (D e.toArray),V b o n,H (D F.toArray)] 81)).alloc (ζ #[I E 0,H (D #[]),V A 0 0,H (D #[]),V A 0 0] 86)) γ:=aw.alloc _;have bs:=O.cell 0;have bf:=u.cell 0;have bB:=u.frozen 0;simp at bs bf;have bb:=K aq;have bc:=K au;have P:=K W;have bE:=u.lt;have cc:=O.lt;have b6:=ie L rfl;have r:=(u.alloc (ζ #[I E z,H (D e.toArray),V b o n,H (D F.toArray)] 81)).alloc (ζ #[I E 0,H (D #[]),V A 0 0,H (D #[]),V A 0 0] 86);have a4:=(O.alloc (ζ #[I E z,H (D e.toArray),V b o n,H (D F.toArray)] 81)).alloc (ζ #[I E 0,H (D #[]),V A 0 0,H (D #[]),V A 0 0] 86);have a9:=(av.alloc (ζ #[I E z,H (D e.toArray),V b o n,H (D F.toArray)] 81)).alloc (ζ #[I E 0,H (D #[]),V A 0 0,H (D #[]),V A 0 0] 86);have ab:=aD L W (λ_ _ Q=>Q);obtain⟨ck,_,_⟩:=Gh r;obtain⟨b3,ce,cf,cg,ch⟩:=Gi r a4;obtain⟨_,_,_,_,cq⟩:=Gi r a9;obtain⟨C,b5⟩:=UO br ab;have R:(a++q).length=(c+1)*4:=L.1;have ap:q.length=4:=by rw[cL] at R;omega
 obtain⟨y0,g,h,j,rfl⟩:∃y0 g h j,q=[y0,g,h,j]:=by
  match q,ap with
  |[y0,g,h,j],_=>exact⟨_,_,_,_,rfl⟩
 have at_:∀T ad,[y0,g,h,j][T]? =N ad->(a++[y0,g,h,j])[c*4+T]? =N ad:=λT ad Q=>by rw[List.getElem?_append_right (by omega),S];rw[Nat.add_sub_cancel_left];exact Q
 have e0:=λl v=>C l v (c*4) y0 (at_ 0 y0 rfl);have bx:=λl v=>C l v (c*4+1) g (at_ 1 g rfl);have bz:=λl v=>C l v (c*4+2) h (at_ 2 h rfl);have bA:=λl v=>C l v (c*4+3) j (at_ 3 j rfl);clear at_ ap;have bw:=K R;have ba:=K S;have am:=K r;have bd:=K ab;have cn:IntKind.i64.wrap ((m:Int)+1-1)=m:=by rw[vi _ (by omega)];omega
 have bt:IntKind.i64.wrap ((c:Int)+1-1)=c:=by rw[vi _ (by omega)];omega
 have b7:((m:Int)==0)=false:=ahO (by omega);have b8:((m:Int)==1)=false:=ahO (by omega);have b1:(m:Int)<=m+1:=by omega
 have b2:(m:Int)<=f:=by omega
 clear aq au u O av aw W r a4 a9 ab C R S L;go_enter func92,JR;go_wp2_with fail;refine(bb.out _ ?_).mono ?_
 .exact P.out
 rintro s bt ⟨rfl,a3,rfl⟩;go_wp2_with fail;go_quiet (fail)
 go_wp2_with fail;go_region
 go_wp2_with fail;refine(bc.out _ ?_ ?_).mono ?_
 .refine θ.to (cs:=#[V (N (U M 0 A)) (m+1) f,x,ι false,I E 0].setIfInBounds 0 (V (N (U M 0 A)) m f)) ?_ (by simp);repeat (with_reducible first|refine θ.drewN ?_ _|refine θ.drew ?_|refine θ.far ?_ (by simp;omega) _|refine θ.χ ?_ _ _|exact am.out)
 .repeat (with_reducible first|refine Y.drewN ?_ _|refine Y.drew ?_|refine Y.bC ?_|refine Y.bG ?_ (by omega)|exact P.out.any)
 rintro s co ⟨rfl,b9,rfl⟩;go_wp2;refine Ω (v:=σ #[fy,ι false,I E 0]) (by simp[ag,JU,go_sem,fy,dT]) rfl ⟨rfl,?_,?_,?_⟩
 .refine θ.to (cs:=#[V (N (U M 0 A)) (m+1) f,x,ι false,I E 0].setIfInBounds 0 (V (N (U M 0 A)) m f)) ?_ (by simp);repeat (with_reducible first|refine θ.drewN ?_ _|refine θ.drew ?_|refine θ.far ?_ (by simp;omega) _|refine θ.χ ?_ _ _|exact am.out)
 .have ao:=adv a [y0,g,h,j] (H (D e.toArray)) (V a8 a7 a6) (H (D al.toArray)) (V a2 a1 a0) rfl;rw[ba.out] at ao;refine ach ?_ ao;repeat (with_reducible first|refine ab9 ?_ _|refine ab8 ?_|refine acb ?_ (by omega)|refine acf ?_ _ _|exact bd.out)
 repeat (with_reducible first|refine Y.drewN ?_ _|refine Y.drew ?_|refine Y.bG ?_ (by omega)|refine Y.ab5 ?_|refine Y.ab6 ?_|exact P.out.any)
theorem yJ{Θ:Int}{tn tt:Bt}(f:aU w j (V b W.length y) W)(g:W.length<=1000):Y w ((w.alloc (ζ #[I E Θ,H (D tn.toArray),V b W.length y,H (D tt.toArray)] 81)).alloc (ζ #[I E 0,H (D #[]),V A 0 0,H (D #[]),V A 0 0] 86)) γ/\θ ((w.alloc (ζ #[I E Θ,H (D tn.toArray),V b W.length y,H (D tt.toArray)] 81)).alloc (ζ #[I E 0,H (D #[]),V A 0 0,H (D #[]),V A 0 0] 86)) w.heap.size 81 #[I E Θ,H (D tn.toArray),V b W.length y,H (D tt.toArray)]/\θ ((w.alloc (ζ #[I E Θ,H (D tn.toArray),V b W.length y,H (D tt.toArray)] 81)).alloc (ζ #[I E 0,H (D #[]),V A 0 0,H (D #[]),V A 0 0] 86)) (w.heap.size+1) 86 #[I E 0,H (D #[]),V A 0 0,H (D #[]),V A 0 0]/\η (∀a,ν δ 153 #[V b W.length y] (((w.alloc (ζ #[I E Θ,H (D tn.toArray),V b W.length y,H (D tt.toArray)] 81)).alloc (ζ #[I E 0,H (D #[]),V A 0 0,H (D #[]),V A 0 0] 86)).drewN a) (A5 (((w.alloc (ζ #[I E Θ,H (D tn.toArray),V b W.length y,H (D tt.toArray)] 81)).alloc (ζ #[I E 0,H (D #[]),V A 0 0,H (D #[]),V A 0 0] 86)).drewN a) W)):=by have h:Y w (w.alloc (ζ #[I E Θ,H (D tn.toArray),V b W.length y,H (D tt.toArray)] 81)) γ:=(Y.refl w γ).alloc _;have c:Y w ((w.alloc (ζ #[I E Θ,H (D tn.toArray),V b W.length y,H (D tt.toArray)] 81)).alloc (ζ #[I E 0,H (D #[]),V A 0 0,H (D #[]),V A 0 0] 86)) γ:=h.alloc _;have t2:θ ((w.alloc (ζ #[I E Θ,H (D tn.toArray),V b W.length y,H (D tt.toArray)] 81)).alloc (ζ #[I E 0,H (D #[]),V A 0 0,H (D #[]),V A 0 0] 86)) w.heap.size 81 #[I E Θ,H (D tn.toArray),V b W.length y,H (D tt.toArray)]:=(θ.new _ _ _).alloc _;have i:θ ((w.alloc (ζ #[I E Θ,H (D tn.toArray),V b W.length y,H (D tt.toArray)] 81)).alloc (ζ #[I E 0,H (D #[]),V A 0 0,H (D #[]),V A 0 0] 86)) (w.heap.size+1) 86 #[I E 0,H (D #[]),V A 0 0,H (D #[]),V A 0 0]:=θ.dA _ _ _ _;have d:η (∀a,ν δ 153 #[V b W.length y] (((w.alloc (ζ #[I E Θ,H (D tn.toArray),V b W.length y,H (D tt.toArray)] 81)).alloc (ζ #[I E 0,H (D #[]),V A 0 0,H (D #[]),V A 0 0] 86)).drewN a) (A5 (((w.alloc (ζ #[I E Θ,H (D tn.toArray),V b W.length y,H (D tt.toArray)] 81)).alloc (ζ #[I E 0,H (D #[]),V A 0 0,H (D #[]),V A 0 0] 86)).drewN a) W)):=K λa=>Mj (f.keeps (c.drewN a) λ_ _ e=>e) g;exact⟨c,t2,i,d⟩
theorem VE(t:θ w y 133 #[V b k d,I E M,ι f,I E 0])(aj:4<k)(m:aG)(s:aU w j x m.Γ)(u:m.Γ.length<=1000):ν δ 91 #[π (N (U y 0 A)),eY m x] w λJ n=>J=ξ (σ #[fy,ι false,I E 5])/\Y w n γ:=by
 obtain⟨ae,ad,rfl⟩:=s.form;unfold eY;obtain⟨al,g,c,an⟩:=m;simp only at*;obtain⟨P,t2,Q,z⟩:=yJ (Θ:=al) (tn:=g) (tt:=an) s u;have F:=t2.cell 1;have G:=t2.cell 2;simp at F G;have ac:=K P;have ab:=K t;have p:=K t2;have q:=K Q;have aq:=t.lt;have ar:(4:Int)<k:=by omega
 clear s t P t2 Q aj;go_enter Et,Ew;go_wp2_with fail;go_region_held3 (λn=>n.cell? (U w.heap.size 1 A)=N (H (D g.toArray))/\n.cell? (U w.heap.size 2 A)=N (V ae c.length ad)) (go_keep) ((go_at_call 153;refine(z.out _).mono ?_;rintro J a ⟨v,rfl,hv,l⟩;obtain⟨i,h,rfl⟩:=hv.form;have R:=(l.blk (p.out.drewN _) id).cell 1;have S:=(l.blk (p.out.drewN _) id).cell 2;simp at R S))
 rename_i ai;clear ai;have o:Y w a γ:=(ac.out.drewN _).trans l Η;have au:w.heap.size+1<a.heap.size:=by have:=(l.blk (q.out.drewN _) id).lt;exact this
 have am:θ (a.alloc (ζ #[H (D g.toArray),V i c.length h,H (D #[]),V A 0 0] 84)) a.heap.size 84 #[H (D g.toArray),V i c.length h,H (D #[]),V A 0 0]:=θ.new _ _ _;have r:=(o.blk ab.out id).alloc (ζ #[H (D g.toArray),V i c.length h,H (D #[]),V A 0 0] 84);have e:=(l.blk (q.out.drewN _) id).alloc (ζ #[H (D g.toArray),V i c.length h,H (D #[]),V A 0 0] 84);have C:Y w (a.alloc (ζ #[H (D g.toArray),V i c.length h,H (D #[]),V A 0 0] 84)) γ:=o.alloc _;have ak:aU (a.alloc (ζ #[H (D g.toArray),V i c.length h,H (D #[]),V A 0 0] 84)) (λO=>w.heap.size+2<=O/\O<a.heap.size) (V i c.length h) c:=(hv.mono λax L u=>⟨by unfold iQ at L;simp at L;omega,u⟩).keeps ((Y.refl a γ).alloc _) λ_ _ ah=>ah;have av:a.heap.size<(a.alloc (ζ #[H (D g.toArray),V i c.length h,H (D #[]),V A 0 0] 84)).heap.size:=by simp
 clear z F G R S p q hv l o;generalize a.alloc (ζ #[H (D g.toArray),V i c.length h,H (D #[]),V A 0 0] 84)=ao at*;generalize a.heap.size=aw at*;have af:=r.cell 0;have ap:=r.frozen 0;simp only[Ρ,Τ] at af;have y0:=e.cell 0;have T:=e.cell 1;have W:=e.cell 2;have X:=e.cell 3;have aa:=e.cell 4;have z0:=e.frozen 0;have az:=e.frozen 1;have aA:=e.frozen 2;have aB:=e.frozen 3;have aC:=e.frozen 4;simp only[gz_] at y0 T W X aa;have B:=K C;clear e r C ak am;go_wp2;refine Ω (v:=σ #[fy,ι false,I E 5]) (by simp[ag,EE,go_sem,fy,dT,y0,T,W,X,aa]) rfl ⟨rfl,?_⟩;repeat (with_reducible first|refine Y.drewN ?_ _|refine Y.drew ?_|refine Y.bC ?_|refine Y.bG ?_ (by omega)|exact B.out.any|exact B.out)
theorem VJ{X ax:Nat}{aA:Option ay}(F:θ w y 133 #[V b k d,I E M,ι f,I E 0])(au:k<=4)(av:1<k)(R:θ w X 84 #[x,i,t,V aA 16 ax])(Q:lV w y X)(o:aG)(C:aU w j B o.Γ)(G:o.Γ.length<=1000):ν δ 91 #[π (N (U y 0 A)),eY o B] w λz p=>z=ξ (σ #[fy,ι false,I E 4])/\Y w p γ:=by
 obtain⟨ao,an,rfl⟩:=C.form;unfold eY;obtain⟨az,e,a,aD⟩:=o;simp only at*;obtain⟨W,t2,ab,J⟩:=yJ (Θ:=az) (tn:=e) (tt:=aD) C G;have O:=t2.cell 1;have P:=t2.cell 2;simp at O P;have ak:=K W;have aj:=K F;have r:=K t2;have s:=K ab;have aH:=F.lt;have aI:¬(4:Int)<k:=by omega
 have aJ:(1:Int)<k:=by omega
 have al:=K R;have am:=K Q;clear C F W t2 ab au av R Q;go_enter Et,Ew;go_wp2_with fail;go_region_held3 (λp=>p.cell? (U w.heap.size 1 A)=N (H (D e.toArray))/\p.cell? (U w.heap.size 2 A)=N (V ao a.length an)) (go_keep) ((go_at_call 153;refine(J.out _).mono ?_;rintro z c ⟨v,rfl,hv,m⟩;obtain⟨l,h,rfl⟩:=hv.form;have ac:=(m.blk (r.out.drewN _) id).cell 1;have ad:=(m.blk (r.out.drewN _) id).cell 2;simp at ac ad))
 rename_i ar;clear ar;have n:Y w c γ:=(ak.out.drewN _).trans m Η;have aK:w.heap.size+1<c.heap.size:=by have:=(m.blk (s.out.drewN _) id).lt;exact this
 have aB:θ (c.alloc (ζ #[H (D e.toArray),V l a.length h,H (D #[]),V A 0 0] 84)) c.heap.size 84 #[H (D e.toArray),V l a.length h,H (D #[]),V A 0 0]:=θ.new _ _ _;have u:=(n.blk aj.out id).alloc (ζ #[H (D e.toArray),V l a.length h,H (D #[]),V A 0 0] 84);have g:=(m.blk (s.out.drewN _) id).alloc (ζ #[H (D e.toArray),V l a.length h,H (D #[]),V A 0 0] 84);have L:Y w (c.alloc (ζ #[H (D e.toArray),V l a.length h,H (D #[]),V A 0 0] 84)) γ:=n.alloc _;have aw:aU (c.alloc (ζ #[H (D e.toArray),V l a.length h,H (D #[]),V A 0 0] 84)) (λT=>w.heap.size+2<=T/\T<c.heap.size) (V l a.length h) a:=(hv.mono λaP S G=>⟨by unfold iQ at S;simp at S;omega,G⟩).keeps ((Y.refl c γ).alloc _) λ_ _ aq=>aq;have aL:c.heap.size<(c.alloc (ζ #[H (D e.toArray),V l a.length h,H (D #[]),V A 0 0] 84)).heap.size:=by simp
 have aa:=((n.blk al.out id).alloc (ζ #[H (D e.toArray),V l a.length h,H (D #[]),V A 0 0] 84));clear J O P ac ad r s hv m n;generalize c.alloc (ζ #[H (D e.toArray),V l a.length h,H (D #[]),V A 0 0] 84)=aE at*;generalize c.heap.size=aM at*;have ap:=u.cell 0;have aF:=u.frozen 0;simp only[Ρ,Τ] at ap;have y0:=g.cell 0;have ae:=g.cell 1;have af:=g.cell 2;have ah:=g.cell 3;have ai:=g.cell 4;have z0:=g.frozen 0;have aQ:=g.frozen 1;have aR:=g.frozen 2;have aS:=g.frozen 3;have aT:=g.frozen 4;simp only[gz_] at y0 ae af ah ai;have q:=K L;have aC:=aa.cell 3;simp only[gz_] at aC;clear g u L aw aB aa;go_wp2_with fail;refine(am.out _ q.out).mono ?_;rintro z aO ⟨rfl,aN,rfl⟩;go_wp2;refine Ω (v:=σ #[fy,ι false,I E 4]) (by simp[ag,EE,go_sem,fy,dT,y0,ae,af,ah,ai]) rfl ⟨rfl,?_⟩;repeat (with_reducible first|refine Y.drewN ?_ _|refine Y.drew ?_|refine Y.bC ?_|refine Y.bG ?_ (by omega)|exact q.out.any|exact q.out)
theorem agL:prog.underlying 131=N (.slice 228):=by kernel_rfl
theorem ae9:(prog.info? 228).map (λa=>(a.zero,a.size,a.bytes))=N (N (π A),1,8):=by kernel_rfl
theorem Rn:prog.underlying 82=N (.slice 84):=by kernel_rfl
theorem afc:(prog.info? 84).map (λa=>(a.zero,a.size,a.bytes))=N (N (Μ #[H (D #[]),V A 0 0,H (D #[]),V A 0 0]),4,80):=by kernel_rfl
theorem Gk(k:w.ownsRow 0 228 1 x y a)(e:Nat)(l:y<=1000000):∃c d,(gJ #[131,131] 131 #[x,V (N (U w.heap.size 0 A)) 1 1]).run δ (w.alloc (ζ #[π (N (U e 0 A))] 228))= .ok c d/\d.ownsRow 0 228 1 c (y+1) (a++[π (N (U e 0 A))])/\Y w d (λb=>x.ownBlock=N b)/\∀b,c.ownBlock=N b->x.ownBlock=N b\/w.heap.size<=b:=by obtain⟨c,d,g,h,i,j⟩:=nA (w:=w) 0 131 228 agL ae9 rfl (by decide) k [π (N (U e 0 A))] rfl (by intro m f;simp at f;subst f;rfl) (by unfold Χ;omega) (by omega) (ai _);exact⟨c,d,g,h,i,j⟩
theorem U8(j:w.ownsRow 0 84 4 x y a)(k:y<=1000000):∃c d,(gJ #[82,82] 82 #[x,V (N (U w.heap.size 0 A)) 1 1]).run δ (w.alloc (ζ #[H (D #[]),V A 0 0,H (D #[]),V A 0 0] 84))= .ok c d/\d.ownsRow 0 84 4 c (y+1) (a++[H (D #[]),V A 0 0,H (D #[]),V A 0 0])/\Y w d (λb=>x.ownBlock=N b)/\∀b,c.ownBlock=N b->x.ownBlock=N b\/w.heap.size<=b:=by obtain⟨c,d,f,g,h,i⟩:=nA (w:=w) 0 82 84 Rn afc rfl (by decide) j [H (D #[]),V A 0 0,H (D #[]),V A 0 0] rfl (by intro l e;simp at e;rcases e with rfl|rfl|rfl|rfl<;>rfl) (by unfold Χ;omega) (by omega) (ai _);exact⟨c,d,f,g,h,i⟩
theorem aca{h:Nat}(c:w.ownsRow y u k x d a)(f:∀b,x.ownBlock=N b->b≠M):(w.setCell (U M h A) i).ownsRow y u k x d a:=
 aD c ((Y.refl w (·=M)).bC) λj g e=>f j g e
def gY(f:Z)(b g i d n:Nat)(k:Option ay)(j:Nat)(o:Bool)(p:List ε)(l:aG)(m:Bs)(c:Z):Prop:=
 ∃(h e:ε),θ c i 133 #[e,I E n,ι o,I E 0]/\c.ownsRow 0 228 1 e (d+1) (p++[π (N (U b 0 A))])/\(∀a,e.ownBlock=N a->(V k d j).ownBlock=N a\/g<=a)/\b<g/\
  θ c b 84 #[H (D l.name.toArray),h,H (D #[]),V A 0 0]/\f.heap.size+2<=b/\aU c (λa=>f.heap.size+2<=a/\a<b) h l.Γ/\Y f c (λa=>a=i\/(V k d j).ownBlock=N a\/m a)
theorem gY.GR{i g m:Nat}{p:aG}(c:gY w y k d M i b g f a p j n)(I:d<w.heap.size)(G:∀o,(V b M g).ownBlock=N o->o<w.heap.size):gY w y k d M i b g f a p j (n.setCell ⟨w.heap.size+1,m,A⟩ x):=by
 obtain⟨q,H,s,t,l,u,z,B,C,E⟩:=c;have e:Y n (n.setCell ⟨w.heap.size+1,m,A⟩ x) (·=w.heap.size+1):=(Y.refl n (·=w.heap.size+1)).bC;refine⟨q,H,e.blk s (by omega),aD t e λh F r=> ?_,l,u,e.blk z (by omega),B,C.keeps e λK J r=>by omega,E.bG (by omega)⟩;obtain c|c:=l h F
 .have:=G h c;omega
 omega
theorem VL(G:θ w y 133 #[V b 1 k,I E d,ι f,I E 0])(aq:w.ownsRow 0 228 1 (V b 1 k) 1 a)(ap:(V b 1 k).ownBlock≠N y)(O:aG)(ac:aU w j x O.Γ)(ae:O.Γ.length<=1000):ν δ 91 #[π (N (U y 0 A)),eY O x] w λe R=>e=ξ (σ #[fy,ι false,I E 0])/\∃B aR,gY w B aR y 1 d b k f a O γ R:=by
 obtain⟨aV,aT,rfl⟩:=ac.form;unfold eY;obtain⟨av,l,g,aE⟩:=O;simp only at*;obtain⟨au,t2,aL,af⟩:=yJ (Θ:=av) (tn:=l) (tt:=aE) ac ae;have an:=t2.cell 1;have ao:=t2.cell 2;simp at an ao;have aQ:=K au;have aP:=K G;have X:=K t2;have aa:=K aL;have aZ:=G.lt;have ai:=K aq;have ah:=K ap;clear ac G au t2 aL aq ap;go_enter Et,Ew;go_wp2_with fail;go_region_held3 (λR=>R.cell? (U w.heap.size 1 A)=N (H (D l.toArray))/\R.cell? (U w.heap.size 2 A)=N (V aV g.length aT)) (go_keep) ((go_at_call 153;refine(af.out _).mono ?_;rintro e i ⟨v,rfl,hv,z⟩;obtain⟨p,o,rfl⟩:=hv.form;have aN:=(z.blk (X.out.drewN _) id).cell 1;have aO:=(z.blk (X.out.drewN _) id).cell 2;simp at aN aO))
 rename_i a0;clear a0;have T:Y w i γ:=(aQ.out.drewN _).trans z Η;have bb:w.heap.size+1<i.heap.size:=by have:=(z.blk (aa.out.drewN _) id).lt;exact this
 have aw:θ (i.alloc (ζ #[H (D l.toArray),V p g.length o,H (D #[]),V A 0 0] 84)) i.heap.size 84 #[H (D l.toArray),V p g.length o,H (D #[]),V A 0 0]:=θ.new _ _ _;have P:=(T.blk aP.out id).alloc (ζ #[H (D l.toArray),V p g.length o,H (D #[]),V A 0 0] 84);have aM:=(z.blk (aa.out.drewN _) id).alloc (ζ #[H (D l.toArray),V p g.length o,H (D #[]),V A 0 0] 84);have F:Y w (i.alloc (ζ #[H (D l.toArray),V p g.length o,H (D #[]),V A 0 0] 84)) γ:=T.alloc _;have ar:aU (i.alloc (ζ #[H (D l.toArray),V p g.length o,H (D #[]),V A 0 0] 84)) (λc=>w.heap.size+2<=c/\c<i.heap.size) (V p g.length o) g:=(hv.mono λS q ae=>⟨by unfold iQ at q;simp at q;omega,ae⟩).keeps ((Y.refl i γ).alloc _) λ_ _ n=>n;have a1:i.heap.size<(i.alloc (ζ #[H (D l.toArray),V p g.length o,H (D #[]),V A 0 0] 84)).heap.size:=by simp
 have aA:=aD ai.out F (λ_ _ n=>n);clear af an ao aN aO X aa hv z T;generalize i.alloc (ζ #[H (D l.toArray),V p g.length o,H (D #[]),V A 0 0] 84)=ab at*;generalize i.heap.size=B at*;obtain⟨a4,r,a2,L,t,aC⟩:=Gk aA B (by omega);have L:r.ownsRow 0 228 1 a4 2 (a++[π (N (U B 0 A))]):=L;obtain⟨C,s,rfl,_⟩:=mI L;have M:∀c,(V b 1 k).ownBlock=N c->c<w.heap.size:=λc J=>ie ai.out J;have Q:=t.blk P ah.out;have ax:=t.blk aw (λe=>by have:=M _ e;have:=F.size;omega);have h:=t.blk aM (λe=>by have:=M _ e;omega);have aj:Y w r (λc=>(V b 1 k).ownBlock=N c):=F.any.trans t λ_ n=> .inl n;have ak:=ar.keeps t λS q e=>by have:=M _ e;omega
 have ad:∀c,(V C 2 s).ownBlock=N c->c≠y/\((V b 1 k).ownBlock=N c\/ab.heap.size<=c):=λc J=>by
  obtain n|n:=aC c J
  .exact⟨λe=>ah.out (e▸n),.inl n⟩
  exact⟨by have:=F.size;omega,.inr n⟩
 have aX:=P.cell 0;have ba:=P.frozen 0;simp only[Ρ,Τ] at aX;have a3:=Q.cell 0;have bc:=Q.frozen 0;simp only[Ρ,Τ] at a3;have am:=(Q.χ 0 (V C 2 s)).to (cs':=#[V C 2 s,I E d,ι f,I E 0]) (by simp);have u:Y r (r.setCell (U y 0 A) (V C 2 s)) (·=y):=(Y.refl r (·=y)).bC;have m:=u.blk h (by omega);have az:=u.blk ax (by omega);have aB:=aD L u λaW G e=>(ad aW G).1 e;have al:=ak.keeps u λS q e=>by omega
 have W:Y w (r.setCell (U y 0 A) (V C 2 s)) (λc=>c=y\/(V b 1 k).ownBlock=N c\/γ c):=(aj.mono λS q=> .inl (.inr (.inl q))).trans u λS q=> .inl (.inl q);have aF:=h.cell 0;have aH:=h.cell 1;have aI:=h.cell 2;have aJ:=h.cell 3;have aK:=h.cell 4;have bd:=h.frozen 0;have t1:=h.frozen 1;have t2:=h.frozen 2;have t3:=h.frozen 3;have t4:=h.frozen 4;simp only[gz_] at aF aH aI aJ aK;have y0:=m.cell 0;have a5:=m.cell 1;have a6:=m.cell 2;have a7:=m.cell 3;have a8:=m.cell 4;have z0:=m.frozen 0;have be:=m.frozen 1;have bf:=m.frozen 2;have bg:=m.frozen 3;have bh:=m.frozen 4;simp only[gz_] at y0 a5 a6 a7 a8;have a9:=K W;have aS:=K M;have aY:η (gY w B ab.heap.size y 1 d b k f a ⟨av,l,g,aE⟩ γ (r.setCell (U y 0 A) (V C 2 s))):=K ⟨_,_,am,aB,λc J=>(ad c J).2,a1,az,by omega,al,W⟩;clear aw F ar aA P ax h aj ak L Q t u ad aC aM M am m az aB al W;go_wp2_with (at_builtin;refine dy rfl (.tmp 62) (.tmp 64) 131 rfl rfl rfl a2 ?_);refine Ω (v:=σ #[fy,ι false,I E 0]) (by simp[ag,EE,go_sem,fy,dT,aF,aH,aI,aJ,aK]) rfl ⟨rfl,B,ab.heap.size,?_⟩;repeat (with_reducible first|refine gY.GR ?_ aZ aS.out|exact aY.out)
theorem VK{l h q:Nat}{r:Option ay}{bW:List ε}(m:θ w y 133 #[V b k d,I E M,ι f,I E 0])(bj:w.ownsRow 0 228 1 (V b k d) k a)(bf:∀c,(V b k d).ownBlock=N c->c≠y/\c≠l/\(V r h q).ownBlock≠N c)(co:2<=k)(cp:k<=4)(aN:θ w l 84 #[x,i,t,V r h q])(bh:w.ownsRow 0 84 4 (V r h q) h bW)(cm:h<=15)(bg:∀c,(V r h q).ownBlock=N c->c≠y/\c≠l)(aM:y≠l)(bi:lV w y l)(au:aG)(aL:aU w j B au.Γ)(af:au.Γ.length<=1000):ν δ 91 #[π (N (U y 0 A)),eY au B] w λe al=>e=ξ (σ #[fy,ι false,I E 0])/\∃W a2,gY w W a2 y k M b d f a au (λc=>c=l\/(V r h q).ownBlock=N c) al/\∃aO,θ al l 84 #[x,i,t,aO]/\al.ownsRow 0 84 4 aO (h+1) (bW++[H (D #[]),V A 0 0,H (D #[]),V A 0 0])/\∀c,aO.ownBlock=N c->(V r h q).ownBlock=N c\/(W<c/\c<a2):=by
 obtain⟨b4,b3,rfl⟩:=aL.form;unfold eY;obtain⟨bn,C,s,bK⟩:=au;simp only at*;obtain⟨bm,t2,bQ,aT⟩:=yJ (Θ:=bn) (tn:=C) (tt:=bK) aL af;have bc:=t2.cell 1;have bd:=t2.cell 2;simp at bc bd;have bY:=K bm;have bX:=K m;have aH:=K t2;have aI:=K bQ;have b9:=m.lt;have aW:=K bj;have X:=K bf;have bZ:=K aN;have aV:=K bh;have az:=K bg;have aA:=K bi;have cq:¬(4:Int)<k:=by omega
 have cn:(1:Int)<k:=by omega
 have cC:=aN.lt;have cz:((h:Int)==16)=false:=ahO (by omega);clear aL m bm t2 bQ bj bf aN bh bg bi;go_enter Et,Ew;go_wp2_with fail;go_region_held3 (λal=>al.cell? (U w.heap.size 1 A)=N (H (D C.toArray))/\al.cell? (U w.heap.size 2 A)=N (V b4 s.length b3)) (go_keep) ((go_at_call 153;refine(aT.out _).mono ?_;rintro e u ⟨v,rfl,hv,ai⟩;obtain⟨Q,P,rfl⟩:=hv.form;have bS:=(ai.blk (aH.out.drewN _) id).cell 1;have bT:=(ai.blk (aH.out.drewN _) id).cell 2;simp at bS bT))
 rename_i ca;clear ca;have aF:Y w u γ:=(bY.out.drewN _).trans ai Η;have cr:w.heap.size+1<u.heap.size:=by have:=(ai.blk (aI.out.drewN _) id).lt;exact this
 have aq:θ (u.alloc (ζ #[H (D C.toArray),V Q s.length P,H (D #[]),V A 0 0] 84)) u.heap.size 84 #[H (D C.toArray),V Q s.length P,H (D #[]),V A 0 0]:=θ.new _ _ _;have aa:=(aF.blk bX.out id).alloc (ζ #[H (D C.toArray),V Q s.length P,H (D #[]),V A 0 0] 84);have av:=(ai.blk (aI.out.drewN _) id).alloc (ζ #[H (D C.toArray),V Q s.length P,H (D #[]),V A 0 0] 84);have am:Y w (u.alloc (ζ #[H (D C.toArray),V Q s.length P,H (D #[]),V A 0 0] 84)) γ:=aF.alloc _;have an:aU (u.alloc (ζ #[H (D C.toArray),V Q s.length P,H (D #[]),V A 0 0] 84)) (λc=>w.heap.size+2<=c/\c<u.heap.size) (V Q s.length P) s:=(hv.mono λR n af=>⟨by unfold iQ at n;simp at n;omega,af⟩).keeps ((Y.refl u γ).alloc _) λ_ _ g=>g;have cs:u.heap.size<(u.alloc (ζ #[H (D C.toArray),V Q s.length P,H (D #[]),V A 0 0] 84)).heap.size:=by simp
 have ar:=aD aW.out am (λ_ _ g=>g);have ad:=am.blk bZ.out id;have ap:=aD aV.out am (λ_ _ g=>g);clear aT bc bd bS bT aH aI hv ai aF;generalize u.alloc (ζ #[H (D C.toArray),V Q s.length P,H (D #[]),V A 0 0] 84)=a3 at*;generalize u.heap.size=W at*;have be:=aa.cell 0;have b7:=aa.frozen 0;simp only[Ρ,Τ] at be;have ax:=K am;have bI:=ad.cell 3;have cd:=ad.frozen 3;simp only[gz_] at bI;have a4:=K (Φ aa (Φ av (Φ aq (Φ ar (Φ ad (Φ ap an))))));clear aa av aq ar ad ap an am;go_wp2_with fail;refine(aA.out _ ax.out).mono ?_;rintro e aS ⟨rfl,cw,rfl⟩;go_wp2_with fail;refine(aA.out _ (ax.out.drewN _)).mono ?_;rintro e aS ⟨rfl,cx,rfl⟩;go_wp2_with fail;refine(aA.out _ (ax.out.drewN _)).mono ?_;rintro e aS ⟨rfl,cy,bk⟩;have J:Y a3 aS γ:=by rw[bk];exact((Y.refl a3 γ).drewN _).drewN _
 clear bk be b7 bI cd;obtain⟨aa,av,aq,ar,ad,ap,an⟩:=a4.out;have ba:=J.blk aa id;have bR:=J.blk av id;have bs:=J.blk aq id;have bx:=aD ar J (λ_ _ g=>g);have aR:=J.blk ad id;have bo:=aD ap J (λ_ _ g=>g);have a5:=an.keeps J (λ_ _ g=>g);have aX:=ax.out.trans (F:=γ) J Η;have ct:=J.size;have aj:∀c,(V b k d).ownBlock=N c->c<w.heap.size:=λc p=>ie aW.out p;have ah:∀c,(V r h q).ownBlock=N c->c<w.heap.size:=λc p=>ie aV.out p;clear aa av aq ar ad ap an J a4 aA;obtain⟨cE,F,ce,aC,L,bD⟩:=U8 bo (by omega);obtain⟨ac,ab,rfl,_⟩:=mI aC;have aJ:=L.blk ba (λe=>(az.out y e).1 rfl);have bU:=L.blk bR (λe=>by have:=ah _ e;omega);have bt:=L.blk bs (λe=>by have:=ah _ e;omega);have bz:=aD bx L (λo m e=>(X.out o m).2.2 e);have aE:=L.blk aR (λe=>(az.out l e).2 rfl);have a6:=a5.keeps L λR n e=>by have:=ah _ e;omega
 have cu:=L.size
 have ao:∀c,(V ac (h+1) ab).ownBlock=N c->c≠y/\c≠l/\c≠W/\c≠w.heap.size+1/\c<F.heap.size/\(V b k d).ownBlock≠N c/\((V r h q).ownBlock=N c\/W<c):=λc p=>by
  have af:=ie aC p;obtain g|g:=bD c p
  .exact⟨(az.out c g).1,(az.out c g).2,by have:=ah _ g;omega,by have:=ah _ g;omega,af,λe=>(X.out c e).2.2 g,.inl g⟩
  exact⟨by omega,by omega,by omega,by omega,af,λe=>by have:=aj _ e;omega,.inr (by omega)⟩
 have T:Y F (F.setCell (U l 3 A) (V ac (h+1) ab)) (·=l):=(Y.refl F (·=l)).bC;have aK:=T.blk aJ aM;have bV:=T.blk bU (by omega);have bu:=T.blk bt (by omega);have bA:=aD bz T (λo m e=>(X.out o m).2.1 e);have bF:=(aE.χ 3 (V ac (h+1) ab)).to (cs':=#[x,i,t,V ac (h+1) ab]) (by simp);have bp:=aD aC T (λo m e=>(ao o m).2.1 e);have a7:=a6.keeps T λR n e=>by omega
 have bl:(F.setCell (U l 3 A) (V ac (h+1) ab)).heap.size=F.heap.size:=by simp
 obtain⟨cF,aw,bJ,aP,O,bE⟩:=Gk bA W (by omega);rw[bl] at bJ;obtain⟨ak,ae,rfl,_⟩:=mI aP;have aB:=O.blk aK (λe=>(X.out y e).1 rfl);have z:=O.blk bV (λe=>by have:=aj _ e;omega);have bv:=O.blk bu (λe=>by have:=aj _ e;omega);have bG:=O.blk bF (λe=>(X.out l e).2.1 rfl);have bq:=aD bp O (λo m e=>(ao o m).2.2.2.2.2.1 e);have a8:=a7.keeps O λR n e=>by have:=aj _ e;omega
 have cv:=O.size
 have aQ:∀c,(V ak (k+1) ae).ownBlock=N c->c≠y/\c≠l/\((V b k d).ownBlock=N c\/F.heap.size<=c):=λc p=>by
  obtain g|g:=bE c p
  .exact⟨(X.out c g).1,(X.out c g).2.1,.inl g⟩
  exact⟨by omega,by omega,.inr (by omega)⟩
 have S:Y aw (aw.setCell (U y 0 A) (V ak (k+1) ae)) (·=y):=(Y.refl aw (·=y)).bC;have bb:=(aB.χ 0 (V ak (k+1) ae)).to (cs':=#[V ak (k+1) ae,I E M,ι f,I E 0]) (by simp);have G:=S.blk z (by omega);have bw:=S.blk bv (by omega);have bH:=S.blk bG (λe=>aM e.symm);have bB:=aD aP S (λo m e=>(aQ o m).1 e);have br:=aD bq S (λo m e=>(ao o m).1 e);have a9:=a8.keeps S λR n e=>by omega
 have aY:Y w F (λc=>(V r h q).ownBlock=N c):=aX.any.trans L λ_ g=> .inl g;have aZ:Y w (F.setCell (U l 3 A) (V ac (h+1) ab)) (λc=>c=l\/(V r h q).ownBlock=N c):=(aY.mono λR n=> .inl (.inr n)).trans T λR n=> .inl (.inl n);have a0:Y w (aw.setCell (U y 0 A) (V ak (k+1) ae)) (λc=>c=y\/(V b k d).ownBlock=N c\/(c=l\/(V r h q).ownBlock=N c)):=((aZ.mono λR n=> .inl (.inr (.inr n))).trans O λR n=> .inl (.inr (.inl n))).trans S λR n=> .inl (.inl n);have b8:η (gY w W F.heap.size y k M b d f a ⟨bn,C,s,bK⟩ (λc=>c=l\/(V r h q).ownBlock=N c) (aw.setCell (U y 0 A) (V ak (k+1) ae))):=K ⟨_,_,bb,bB,λc p=>(aQ c p).2.2,by omega,bw,by omega,a9,a0⟩;have b2:=K bH;have b0:=K br;have a1:=K ao;have b1:=K aj;have b5:=aJ.cell 0;have b6:=aK.cell 0;have cf:=aB.cell 0;have ck:=aB.frozen 0;have cb:=aR.cell 3;have cc:=aE.cell 3;have cA:=aE.frozen 3;simp only[gz_] at b5 b6 cf cb cc;have cB:((k:Int)+1==1)=false:=ahO (by omega);have cl:¬l=y:=λe=>aM e.symm;have bL:=z.cell 0;have bM:=z.cell 1;have bN:=z.cell 2;have bO:=z.cell 3;have bP:=z.cell 4;have cD:=z.frozen 0;have t1:=z.frozen 1;have t2:=z.frozen 2;have t3:=z.frozen 3;have t4:=z.frozen 4;simp only[gz_] at bL bM bN bO bP;have y0:=G.cell 0;have cg:=G.cell 1;have ch:=G.cell 2;have ci:=G.cell 3;have cj:=G.cell 4;have z0:=G.frozen 0;have cG:=G.frozen 1;have cH:=G.frozen 2;have cI:=G.frozen 3;have cJ:=G.frozen 4;simp only[gz_] at y0 cg ch ci cj;clear ba bR bs bx aR bo a5 aX aJ bU bt bz aE a6 aC L bD ao T aK bV bu bA bF bp a7 bl aP O bE aB z bv bG bq a8 aQ S bb G bw bH bB br a9 aY aZ a0 aj ah;go_wp2_with (first|(at_builtin;refine dy rfl (.tmp 52) (.tmp 54) 82 rfl rfl rfl ce ?_)|(at_builtin;refine dy rfl (.tmp 62) (.tmp 64) 131 rfl rfl rfl bJ ?_));refine Ω (v:=σ #[fy,ι false,I E 0]) (by simp[ag,EE,go_sem,fy,dT,bL,bM,bN,bO,bP]) rfl ⟨rfl,W,F.heap.size,?_,V ac (h+1) ab,?_,?_,λc p=> ?_⟩
 .repeat (with_reducible first|refine gY.GR ?_ b9 b1.out|exact b8.out)
 .repeat (with_reducible first|refine θ.far ?_ (by show l≠w.heap.size+1;omega) _|exact b2.out)
 .repeat (with_reducible first|refine aca ?_ (λo m=>(a1.out o m).2.2.2.1)|exact b0.out)
 have:=a1.out c p;exact this.2.2.2.2.2.2.imp id λg=>⟨g,this.2.2.2.2.1⟩
theorem gY.IZ{g h:Nat}{i:aG}(c:gY w y k d M g b h f a i j n)(e:Y n G γ):gY w y k d M g b h f a i j G:=by obtain⟨l,x,m,o,p,q,r,s,t,u⟩:=c;exact⟨l,x,e.blk m id,aD o e (λ_ _ c=>c),p,q,e.blk r id,s,t.keeps e (λ_ _ c=>c),u.trans e Η⟩
theorem gY.GI{c e:Nat}{h:aG}(i:gY w y k d M c b e f a h j n)(g:Nat):gY w y k d M c b e f a h j (n.drewN g):=i.IZ ((Y.refl n γ).drewN g)
theorem gY.GJ{c e:Nat}{g:aG}(h:gY w y k d M c b e f a g j n):gY w y k d M c b e f a g j n.drew:=h.IZ ((Y.refl n γ).drew)
theorem aU.GI(a:aU w j x W)(b:Nat):aU (w.drewN b) j x W:=a.keeps ((Y.refl w γ).drewN b) λ_ _ a=>a
theorem aU.GJ(a:aU w j x W):aU w.drew j x W:=a.keeps ((Y.refl w γ).drew) λ_ _ a=>a
theorem aU.Ya(b:aU w j x W)(c:¬j y):aU (w.setCell (U y k A) i) j x W:=b.keeps (Y.bC (Y.refl w (·=y))) λ_ d a=>c (a▸d)
theorem VG(P:θ w y 133 #[V b 0 k,I E d,ι f,I E 0])(aI:w.ownsRow 0 228 1 (V b 0 k) 0 [])(aH:(V b 0 k).ownBlock≠N y)(F:aG)(ao:aU w j x F.Γ)(ab:F.Γ.length<=1000):ν δ 91 #[π (N (U y 0 A)),eY F x] w λh B=>∃aC p be W,h=ξ (σ #[dT 1 F.name aC [] (V A 0 0),ι true,I E 0])/\gY w p be y 0 d b k f [] F γ B/\aU B (iQ W) aC F.Γ/\p<W/\w.heap.size<=W/\(∃aW,B.cell? (U y 0 A)=N aW/\∀a,aW.ownBlock=N a->a<W):=by
 obtain⟨bh,bg,rfl⟩:=ao.form;unfold eY;obtain⟨aL,n,c,aV⟩:=F;simp only at*;obtain⟨aK,t2,aX,au⟩:=yJ (Θ:=aL) (tn:=n) (tt:=aV) ao ab;have aE:=t2.cell 1;have aF:=t2.cell 2;simp at aE aF;have bd:=K aK;have bc:=K P;have ai:=K t2;have aj:=K aX;have bl:=P.lt;have aw:=K aI;have av:=K aH;clear ao P aK t2 aX aI aH;go_enter Et,Ew;go_wp2_with fail;go_region_held3 (λB=>B.cell? (U w.heap.size 1 A)=N (H (D n.toArray))/\B.cell? (U w.heap.size 2 A)=N (V bh c.length bg)) (go_keep) ((go_at_call 153;refine(au.out _).mono ?_;rintro h g ⟨v,rfl,hv,L⟩;obtain⟨u,t,rfl⟩:=hv.form;have ad:=(L.blk (ai.out.drewN _) id).cell 1;have ae:=(L.blk (ai.out.drewN _) id).cell 2;simp at ad ae))
 rename_i an;clear an;have af:Y w g γ:=(bd.out.drewN _).trans L Η;have bL:w.heap.size+1<g.heap.size:=by have:=(L.blk (aj.out.drewN _) id).lt;exact this
 have aM:θ (g.alloc (ζ #[H (D n.toArray),V u c.length t,H (D #[]),V A 0 0] 84)) g.heap.size 84 #[H (D n.toArray),V u c.length t,H (D #[]),V A 0 0]:=θ.new _ _ _;have X:=(af.blk bc.out id).alloc (ζ #[H (D n.toArray),V u c.length t,H (D #[]),V A 0 0] 84);have aY:=(L.blk (aj.out.drewN _) id).alloc (ζ #[H (D n.toArray),V u c.length t,H (D #[]),V A 0 0] 84);have O:Y w (g.alloc (ζ #[H (D n.toArray),V u c.length t,H (D #[]),V A 0 0] 84)) γ:=af.alloc _;have aJ:aU (g.alloc (ζ #[H (D n.toArray),V u c.length t,H (D #[]),V A 0 0] 84)) (λa=>w.heap.size+2<=a/\a<g.heap.size) (V u c.length t) c:=(hv.mono λT s ab=>⟨by unfold iQ at s;simp at s;omega,ab⟩).keeps ((Y.refl g γ).alloc _) λ_ _ o=>o;have bp:g.heap.size<(g.alloc (ζ #[H (D n.toArray),V u c.length t,H (D #[]),V A 0 0] 84)).heap.size:=by simp
 have aN:=aD aw.out O (λ_ _ o=>o);clear au aE aF ad ae ai aj hv L af;generalize g.alloc (ζ #[H (D n.toArray),V u c.length t,H (D #[]),V A 0 0] 84)=ak at*;generalize g.heap.size=p at*;obtain⟨bz,e,aS,M,G,aP⟩:=Gk aN p (by omega);have M:e.ownsRow 0 228 1 bz 1 ([]++[π (N (U p 0 A))]):=M;obtain⟨m,l,rfl,_⟩:=mI M;have S:∀a,(V b 0 k).ownBlock=N a->a<w.heap.size:=λa C=>ie aw.out C;have aa:=G.blk X av.out;have Q:=G.blk aM (λh=>by have:=S _ h;have:=O.size;omega);have q:=G.blk aY (λh=>by have:=S _ h;omega);have ah:Y w e (λa=>(V b 0 k).ownBlock=N a):=O.any.trans G λ_ o=> .inl o;have aB:=aJ.keeps G λT s h=>by have:=S _ h;omega
 have ap:∀a,(V m 1 l).ownBlock=N a->a≠y/\((V b 0 k).ownBlock=N a\/ak.heap.size<=a):=λa C=>by
  obtain o|o:=aP a C
  .exact⟨λh=>av.out (h▸o),.inl o⟩
  exact⟨by have:=O.size;omega,.inr o⟩
 have bj:=X.cell 0;have bF:=X.frozen 0;simp only[Ρ,Τ] at bj;have aT:=aa.cell 0;have bs:=aa.frozen 0;have aQ:=Q.cell 0;have aR:=Q.cell 1;simp only[gz_] at aT aQ aR;have am:=(aa.χ 0 (V m 1 l)).to (cs':=#[V m 1 l,I E d,ι f,I E 0]) (by simp);have J:Y e (e.setCell (U y 0 A) (V m 1 l)) (·=y):=(Y.refl e (·=y)).bC;have r:=J.blk q (by omega);have R:=J.blk Q (by omega);have aO:=aD M J λbi P h=>(ap bi P).1 h;have al:=aB.keeps J λT s h=>by omega
 have ax:Y w (e.setCell (U y 0 A) (V m 1 l)) (λa=>a=y\/(V b 0 k).ownBlock=N a\/γ a):=(ah.mono λT s=> .inl (.inr (.inl s))).trans J λT s=> .inl (.inl s);have bq:=R.cell 0;have br:=R.cell 1;simp only[gz_] at bq br;have bt:=q.cell 0;have bu:=q.cell 1;have bv:=q.cell 2;have bw:=q.cell 3;have bx:=q.cell 4;have bQ:=q.frozen 0;have t1:=q.frozen 1;have t2:=q.frozen 2;have t3:=q.frozen 3;have t4:=q.frozen 4;simp only[gz_] at bt bu bv bw bx;have y0:=r.cell 0;have bA:=r.cell 1;have bB:=r.cell 2;have bD:=r.cell 3;have bE:=r.cell 4;have z0:=r.frozen 0;have bS:=r.frozen 1;have bT:=r.frozen 2;have bU:=r.frozen 3;have bV:=r.frozen 4;simp only[gz_] at y0 bA bB bD bE;have bf:=K S;have bn:∀a,(V m 1 l).ownBlock=N a->a<e.heap.size:=λa C=>ie M C;have bm:p<e.heap.size:=Q.lt;have bk:η (gY w p ak.heap.size y 0 d b k f [] ⟨aL,n,c,aV⟩ γ (e.setCell (U y 0 A) (V m 1 l))):=K ⟨_,_,am,aO,λa C=>(ap a C).2,bp,R,by omega,al,ax⟩;have a6:=K al;have a8:=K am;have az:=K R;have z:=K r;have bo:w.heap.size<=e.heap.size:=ah.size;have a9:η (∀ac,ν δ 153 #[V u c.length t] ((e.setCell (U y 0 A) (V m 1 l)).drewN ac) (A5 ((e.setCell (U y 0 A) (V m 1 l)).drewN ac) c)):=K λac=>Mj (a6.out.keeps (((Y.refl _ γ).drewN ac)) λ_ _ o=>o) ab;have bO:¬w.heap.size+1=p:=by omega
 have bP:¬p=w.heap.size+1:=by omega
 clear aM O aJ aN X Q q ah aB M aa G J ap aP aY S am r R aO al ax;go_wp2_with (at_builtin;refine dy rfl (.tmp 62) (.tmp 64) 131 rfl rfl rfl aS ?_);have bM:e.heap.size<=(e.setCell (U y 0 A) (V m 1 l)).heap.size:=by simp
 clear aT bs aQ aR aS;generalize e.setCell (U y 0 A) (V m 1 l)=aA at*;go_region_held3 (λB=>B.cell? (U p 0 A)=N (H (D n.toArray))/\B.cell? (U p 1 A)=N (V u c.length t)) (go_keep) ((go_at_call 153;refine(a9.out _).mono ?_;rintro h a5 ⟨bR,rfl,aq,i⟩;obtain⟨a0,aZ,rfl⟩:=aq.form;have ad:=(i.blk (az.out.drewN _) id).cell 0;have ae:=(i.blk (az.out.drewN _) id).cell 1;have a1:=(i.blk (z.out.drewN _) id).cell 0;have bG:=(i.blk (z.out.drewN _) id).frozen 0;have a2:=(i.blk (z.out.drewN _) id).cell 1;have bH:=(i.blk (z.out.drewN _) id).frozen 1;have a3:=(i.blk (z.out.drewN _) id).cell 2;have bI:=(i.blk (z.out.drewN _) id).frozen 2;have g:=(i.blk (z.out.drewN _) id).cell 3;have bJ:=(i.blk (z.out.drewN _) id).frozen 3;have a4:=(i.blk (z.out.drewN _) id).cell 4;have bK:=(i.blk (z.out.drewN _) id).frozen 4;simp only[gz_] at ad ae a1 a2 a3 g a4))
 rename_i an;clear an;have ar:Y aA a5 γ:=((Y.refl aA γ).drewN _).trans i Η;have bN:=ar.size;have ba:=K (bk.out.IZ ar);have a7:η (aU a5 (iQ e.heap.size) (V a0 c.length aZ) c):=K (aq.mono λT s _=>by unfold iQ at s⊢;simp at s;omega);have bb:=K (ar.blk a8.out id);clear aq i;go_wp2;refine Ω (v:=σ #[dT 1 n (V a0 c.length aZ) [] (V A 0 0),ι true,I E 0]) (by simp[ag,EE,go_sem,dT,a1,a2,a3,g,a4]) rfl ⟨_,p,ak.heap.size,e.heap.size,rfl,?_,?_,bm,bo,V m 1 l,?_,bn⟩
 .repeat (with_reducible first|refine gY.GI ?_ _|refine gY.GJ ?_|refine gY.GR ?_ bl bf.out|exact ba.out)
 .repeat (with_reducible first|refine aU.GI ?_ _|refine aU.GJ ?_|refine aU.Ya ?_ (by unfold iQ;omega)|exact a7.out)
 refine(θ.cell (cs:=#[V m 1 l,I E d,ι f,I E 0]) (t:=133) ?_ 0).trans rfl;repeat (with_reducible first|refine θ.drewN ?_ _|refine θ.drew ?_|refine θ.far ?_ (by show y≠w.heap.size+1;omega) _|exact bb.out)
def nZ(d:Z)(S:Bs):Option Ev->ε->Prop
 |none,v=>v=fy
 |some (.head f e),v=>∃a,v=dT 1 f a [] (V A 0 0)/\aU d S a e
 |some (.item b),v=>∃a c,v=dT 2 b.name a b.Β c/\bX d S b a c
 |some .ak,v=>v=dT 3 [] (V A 0 0) [] (V A 0 0)
def jv(f:Z)(i:Nat)(b:Bs)(m:Int ⊕(Bd×Option Ev))(g:aI)(a:Z):Prop:=
 match m with
 | .inl j=>g=ξ (σ #[fy,ι false,I E j])/\j≠0/\Y f a b/\∃k d l,θ a i 133 #[k,d,l,I E 0]
 | .inr (d,h)=>∃v c,g=ξ (σ #[v,ι h.isSome,I E 0])/\nZ a (λe=>¬c e/\(b e\/f.heap.size<=e)) h v/\gX a i d c/\Ψ f a b c
theorem bL.own(g:bL w j y x k a):bL w (λe=>j e/\x.ownBlock=N e) y x k a:=by obtain⟨i,n,f,rfl,h,m,l,d⟩:=g;exact⟨i,n,f,rfl,h,m,l,λc b=>⟨(d c b).1,⟨(d c b).2.1,by rw[b];rfl⟩,(d c b).2.2⟩⟩
theorem GZ{c:aG}(e:θ w y 84 #[H (D c.name.toArray),x,H (D #[]),V A 0 0])(f:aU w j x c.Γ)(d:∀a,j a->a<y):od w y (.mk c.name c.Γ [] []) false (λa=>a=y\/(j a/\x.ownBlock=N a)):=by
 refine⟨⟨x,V A 0 0,[],[],e,rfl,db _ _ _ _,by simp[iM],by simp[iM],(bL.own f).mono λa b _=>⟨.inr b,by have:=d a b.1;omega,by simp[iM]⟩,nofun⟩,.inl rfl,λa b=> ?_,by simp[El.Ξ]⟩;have g:=e.lt;obtain rfl|b:=b
 .exact g
 have:=d a b.1;omega
theorem wY(b:Nat×Bs)(a:List (Nat×Bs)):mK (b::a)=mK a++[π (N ⟨b.1,0,A⟩)]:=by simp[mK]
theorem lV.of{p:Nat×Bs}{fr:List (Nat×Bs)}(c:θ w y 133 #[x,i,t,B])(a:w.ownsRow 0 228 1 x (fr.length+1) (mK (p::fr)))(d:fr.length<=100):lV w y p.1:=λ_ b=>Oz (b.blk c id) (aD a b (λ_ _ a=>a)) d
theorem VD{o:Bd}{S:Bs}(c:gX w y o j)(bx:o.ae=false)(t:aG)(an:aU w S x t.Γ)(au:t.Γ.length<=1000):ν δ 91 #[π (N (U y 0 A)),eY t x] w (jv w y j (vM o t)):=by
 obtain⟨bE,cA,cS⟩:=o;simp only at bx;subst bx;obtain⟨cR,p,q,B,T,C,W,s,bt,a4⟩:=c;have O:=C.len;simp only at q C bt a4 O;obtain⟨ba,a9,rfl,cD,_,_,_⟩:=mI B;unfold vM;simp only;have cB:=q.lt;have X:j y:=(s y).2 (.inl rfl);by_cases ao:4<bE.length
 .rw[ahM ao];refine(VE q (by omega) t an au).mono ?_;rintro d L ⟨rfl,a⟩;exact⟨rfl,by decide,a.any,_,_,_,a.blk q id⟩
 rw[WB ao];match bE,p,C,O with
 |[],[],C,_=>
  refine(VG q B T t an au).mono ?_;rintro d L ⟨bc,k,bk,cy,rfl,⟨z,Q,ab,aw,m,bA,a0,bB,a1,G⟩,cb,cI,cn,bi,cl,cm⟩;have b4:bi=Q:=by have:=ab.cell 0;rw[cl] at this;simpa using this
  subst b4;have ap:=GZ a0 a1 λa b=>b.2;have ac:∀a,(V ba 0 a9).ownBlock=N a->a<w.heap.size:=λa b=>ie B b;refine⟨_,λa=>a=y\/bi.ownBlock=N a\/(a=k\/((w.heap.size+2<=a/\a<k)/\z.ownBlock=N a)),rfl,⟨bc,rfl,cb.mono λf e _=>⟨?_,.inr (aJ cn e)⟩⟩,⟨bi,[(k,λa=>a=k\/((w.heap.size+2<=a/\a<k)/\z.ownBlock=N a))],ab,by simpa[mK] using aw,?_,⟨ap,nofun,trivial⟩,?_,?_,by simp,a4⟩,?_⟩
  .unfold iQ at e;rintro(d|d|d|d)
   .omega
   .have:=cm f d;omega
   .omega
   omega
  .intro d;obtain c|c:=m y d
   .exact T c
   omega
  .intro g ck;obtain rfl:=cj.1 ck;refine⟨?_,λa b=> ?_⟩
   .rintro(d|d)<;>omega
   obtain c|c:=m a b
   .have:=ac a c;rintro(d|d)<;>omega
   rintro(d|d)<;>omega
  .intro a;simp
  refine⟨G.mono λa b=> ?_,λa b=> ?_⟩
  .obtain rfl|b|b:=b
   .exact .inl X
   .exact .inl ((s a).2 (.inr (.inl b)))
   exact b.elim
  obtain rfl|b|b|b:=b
  .exact .inl X
  .obtain c|c:=m a b
   .exact .inl ((s a).2 (.inr (.inl c)))
   exact .inr (by omega)
  .exact .inr (by omega)
  exact .inr (by omega)
 |[d],[g],C,_=>
  obtain⟨bd,_,_⟩:=C;have ac:∀a,(V ba 1 a9).ownBlock=N a->a<w.heap.size:=λa b=>ie B b
  dsimp only
  rw[WB (λc=>c.1 rfl)];refine(VL q B T t an au).mono ?_;rintro R L ⟨rfl,k,bk,z,Q,ab,aw,m,bA,a0,bB,a1,G⟩;have ap:=GZ a0 a1 λa b=>b.2;obtain⟨J,n⟩:=W g (dP ..);have P:∀a,g.2 a->j a:=λa b=>(s a).2 (.inr (.inr ⟨g,dP ..,b⟩))
  have be:od L g.1 d false g.2:=bd.keeps G λf e aq=>by
   obtain rfl|aq|aq:=aq
   .exact J e
   .exact n f aq e
   exact aq
  refine⟨_,λa=>a=y\/Q.ownBlock=N a\/(a=k\/((w.heap.size+2<=a/\a<k)/\z.ownBlock=N a))\/g.2 a,rfl,rfl,⟨Q,[(k,λa=>a=k\/((w.heap.size+2<=a/\a<k)/\z.ownBlock=N a)),g],ab,by rw[wY];exact aw,?_,⟨ap,?_,be,nofun,trivial⟩,?_,?_,by simp,a4⟩,?_⟩
  .intro R;obtain c|c:=m y R
   .exact T c
   omega
  .intro co av a b l;obtain rfl:=cj.1 av;have:=bd.lt a l;rcases b with rfl|⟨⟨a2,o⟩,_⟩<;>omega
  .intro co av;obtain rfl|av:=dD.1 av
   .refine⟨?_,λa b=> ?_⟩
    .rintro(d|d)<;>omega
    obtain c|c:=m a b
    .have:=ac a c;rintro(d|d)<;>omega
    rintro(d|d)<;>omega
   obtain rfl:=cj.1 av;refine⟨J,λa b l=> ?_⟩;obtain c|c:=m a b
   .exact n a c l
   have:=bd.lt a l;omega
  .intro a;simp
  refine⟨G.mono λa b=> ?_,λa b=> ?_⟩
  .obtain rfl|b|b:=b
   .exact .inl X
   .exact .inl ((s a).2 (.inr (.inl b)))
   exact b.elim
  obtain rfl|b|(b|b)|b:=b
  .exact .inl X
  .obtain c|c:=m a b
   .exact .inl ((s a).2 (.inr (.inl c)))
   exact .inr (by omega)
  .exact .inr (by omega)
  .exact .inr (by omega)
  exact .inl (P a b)
 |d::b3::cq,g::n::p,C,O=>
  obtain⟨⟨⟨bc,cJ,u,bF,bb,bq,am,bN,M,b0,b1⟩,al,F,b6⟩,a3,bs⟩:=C;have a8:=bs.lt;have ac:∀a,(V ba (g::n::p).length a9).ownBlock=N a->a<w.heap.size:=λa b=>ie B b;obtain⟨J,ad⟩:=W g (dP ..);have P:∀k∈g::n::p,∀a,k.2 a->j a:=λk ch a b=>(s a).2 (.inr (.inr ⟨k,ch,b⟩));have bv:lV w y g.1:=lV.of (p:=g) (fr:=n::p) q B (by simp at O bt⊢;omega);have b9:bF=[]:=by have:=am.1;rw[cL,Hp] at this;simp at this;exact this
  subst b9;simp only[Eh,xJ,Bool.toNat_false,Fe,AA] at am;obtain⟨a6,a5,rfl,_⟩:=mI am;have cf:d.Ξ.length=u.length:=by rw[bq];simp
  dsimp only
  by_cases bw:u.length=16
  .rw[ahM ⟨by simp,by omega⟩];rw[bw] at bb;refine(VJ q (by simp at O ao⊢;omega) (by simp) bb bv t an au).mono ?_;rintro R L ⟨rfl,a⟩;exact⟨rfl,by decide,a.any,_,_,_,a.blk q id⟩
  rw[WB (by rw[cf];exact λc=>bw c.2)];have cg:(g::n::p).length<=4:=by simp at O ao⊢;omega
  have ce:y≠g.1:=λd=>J (d▸al);have b7:u.length<=15:=by simp at b6;omega
  have bf:∀a,(V a6 u.length a5).ownBlock=N a->a≠y/\a≠g.1:=λa b=>⟨λd=>J (d▸M a b),λd=>bN (d▸b)⟩;have bz:∀a,(V a6 u.length a5).ownBlock=N a->a<w.heap.size:=λa b=>ie am b;refine(VK q B (λa b=>⟨λd=>T (d▸b),λd=>ad a b (d▸al),λd=>ad a b (M a d)⟩) (by simp) cg bb am b7 bf ce bv t an au).mono ?_;rintro R L ⟨rfl,k,bk,⟨z,Q,ab,aw,m,bA,a0,bB,a1,G⟩,a7,b2,br,r⟩;have ap:=GZ a0 a1 λa b=>b.2;have keep:∀ {bn:Bs},(∀f,bn f->f<w.heap.size/\f≠y/\(V ba (g::n::p).length a9).ownBlock≠N f/\f≠g.1/\(V a6 u.length a5).ownBlock≠N f)->∀f,bn f->L.heap[f]? =w.heap[f]? :=λb8 f e=>by obtain⟨cs,ct,cu,cv,cx⟩:=b8 f e;exact G.block f cs (λd=>d.elim ct λd=>d.elim cu λd=>d.elim cv cx)
  have be:od L g.1 d true (λa=>g.2 a\/a7.ownBlock=N a):=by
   refine⟨⟨bc,a7,u,_,b2,bq,br,λd=> ?_,λo cc=> .inr cc,?_,λa b=> ?_⟩,.inl al,λa b=> ?_,by simp;omega⟩
   .obtain c|c:=r _ d
    .exact(bf _ c).2 rfl
    have:=F _ al;omega
   .exact(bL.uX (S:=λa=>g.2 a/\a≠g.1/\(V a6 u.length a5).ownBlock≠N a) b0 (keep λf e=>⟨F f e.1,λd=>J (d▸e.1),λd=>ad f d e.1,e.2.1,e.2.2⟩)).mono λf e _=>⟨.inl e.1,e.2.1,λd=>by
     obtain c|c:=r f d
     .exact e.2.2 c
     .have:=F f e.1;omega⟩
   .exact((b1 a b).uX (keep λf e=>⟨F f e.1,λd=>J (d▸e.1),λd=>ad f d e.1,e.2.1,e.2.2⟩)).mono λf e _=>⟨.inl e.1,e.2.1,λd=>by
     obtain c|c:=r f d
     .exact e.2.2 c
     .have:=F f e.1;omega⟩
   obtain b|b:=b
   .exact dQ (F a b) G.size
   exact ie br b
  have b5:js L false (n::p) (b3::cq):=bs.stay λi h=>keep λf e=>⟨a8 i h f e,λd=>(W i (eZ _ h)).1 (d▸e),λd=>(W i (eZ _ h)).2 f d e,λd=>a3 i h g.1 al (d▸e),λd=>a3 i h f (M f d) e⟩;refine⟨_,λa=>a=y\/Q.ownBlock=N a\/(a=k\/((w.heap.size+2<=a/\a<k)/\z.ownBlock=N a))\/(g.2 a\/a7.ownBlock=N a)\/∃i∈n::p,i.2 a,rfl,rfl,⟨Q,(k,λa=>a=k\/((w.heap.size+2<=a/\a<k)/\z.ownBlock=N a))::(g.1,λa=>g.2 a\/a7.ownBlock=N a)::n::p,ab,by rw[wY,wY (g.1,_),<-wY g];exact aw,?_,⟨ap,?_,be,?_,b5⟩,?_,?_,by simp at O ao⊢;omega,a4⟩,?_⟩
  .intro R;obtain c|c:=m y R
   .exact T c
   omega
  .intro i h a b l;obtain rfl|h:=dD.1 h
   .obtain l|l:=l
    .have:=F a l;rcases b with rfl|⟨⟨a2,o⟩,_⟩<;>omega
    obtain c|c:=r a l
    .have:=bz a c;rcases b with rfl|⟨⟨a2,o⟩,_⟩<;>omega
    rcases b with rfl|⟨⟨a2,o⟩,_⟩<;>omega
   have:=a8 i h a l;rcases b with rfl|⟨⟨a2,o⟩,_⟩<;>omega
  .intro i h a b l;obtain b|b:=b
   .exact a3 i h a b l
   obtain c|c:=r a b
   .exact a3 i h a (M a c) l
   have:=a8 i h a l;omega
  .intro i h;obtain rfl|h:=dD.1 h
   .refine⟨?_,λa b=> ?_⟩
    .rintro(d|d)<;>omega
    obtain c|c:=m a b
    .have:=ac a c;rintro(d|d)<;>omega
    rintro(d|d)<;>omega
   obtain rfl|h:=dD.1 h
   .refine⟨?_,λa b=> ?_⟩
    .rintro(d|d)
     .exact J d
     obtain c|c:=r y d
     .exact(bf y c).1 rfl
     omega
    rintro(d|d)
    .obtain c|c:=m a b
     .exact ad a c d
     have:=F a d;omega
    obtain c|c:=m a b
    .obtain h'|h':=r a d
     .exact ad a c (M a h')
     have:=ac a c;omega
    obtain h'|h':=r a d
    .have:=bz a h';omega
    omega
   refine⟨(W i (eZ _ h)).1,λa b l=> ?_⟩;obtain c|c:=m a b
   .exact(W i (eZ _ h)).2 a c l
   have:=a8 i h a l;omega
  .intro a;constructor
   .rintro(c|c|c|c|⟨i,h,c⟩)
    .exact .inl c
    .exact .inr (.inl c)
    .exact .inr (.inr ⟨_,dP ..,c⟩)
    .exact .inr (.inr ⟨_,eZ _ (dP ..),c⟩)
    exact .inr (.inr ⟨i,eZ _ (eZ _ h),c⟩)
   rintro(c|c|⟨i,h,c⟩)
   .exact .inl c
   .exact .inr (.inl c)
   obtain rfl|h:=dD.1 h
   .exact .inr (.inr (.inl c))
   obtain rfl|h:=dD.1 h
   .exact .inr (.inr (.inr (.inl c)))
   exact .inr (.inr (.inr (.inr ⟨i,h,c⟩)))
  refine⟨G.mono λa b=> ?_,λa b=> ?_⟩
  .obtain rfl|b|rfl|b:=b
   .exact .inl X
   .exact .inl ((s a).2 (.inr (.inl b)))
   .exact .inl (P g (dP ..) _ al)
   exact .inl (P g (dP ..) _ (M a b))
  obtain rfl|b|(b|b)|(b|b)|⟨i,h,b⟩:=b
  .exact .inl X
  .obtain c|c:=m a b
   .exact .inl ((s a).2 (.inr (.inl c)))
   exact .inr (by omega)
  .exact .inr (by omega)
  .exact .inr (by omega)
  .exact .inl (P g (dP ..) a b)
  .obtain c|c:=r a b
   .exact .inl (P g (dP ..) a (M a c))
   exact .inr (by omega)
  exact .inl (P i (eZ _ h) a b)
theorem acg{m c:Nat}(e:w.ownsRow y u k (V (N (U d 0 A)) M c) M a)(f:m<=M):w.ownsRow y u k (V (N (U d 0 A)) m c) m (a.take (m*k)):=by
 have g:=Nat.mul_le_mul_right k f;refine⟨by rw[lO,e.1];exact AU g,?_⟩;obtain⟨b,_⟩|⟨s,r,h,b,i,j,l,n,o,p⟩:=e.2
 .cases b
 injection b with b _ q;injection b with b;injection b with b;subst b q;exact .inr ⟨d,c,h,rfl,i,j,aJ f l,n,o,by rw[<-p,List.take_take,AU g]⟩
theorem acd{c:Nat×Bs}{a:List (Nat×Bs)}(b:w.ownsRow 0 228 1 (V (N (U y 0 A)) (a.length+1) k) (a.length+1) (mK (c::a))):w.ownsRow 0 228 1 (V (N (U y 0 A)) a.length k) a.length (mK a):=by have:=acg b (m:=a.length) (by omega);rw[wY,AV,List.take_append_of_le_length (by rw[PZ];exact Ο _),mo (by rw[PZ];exact Ο _)] at this;exact this
theorem XQ{B:Bd}(m:gX w y B j)(bn:B.ae=false)(an:B.aV≠[])(L:aG)(am:x=V b k d):ν δ 92 #[π (N (U y 0 A)),eY L x] w (jv w y j (yP B L)):=by
 obtain⟨ct,cA,cW⟩:=B;simp only at bn an;subst bn;obtain⟨cU,r,F,a3,b7,W,P,a4,u,ad⟩:=m;have s:=W.len;simp only at F W u ad s;match ct,r,W,s,an with
 |[],_,_,_,an=>exact ahN rfl an
 |a::co,q::r,W,s,_=>
  obtain⟨⟨⟨cy,cR,M,bv,X,bz,ab,cx,bB,a9,bE⟩,cs,ch,cB⟩,a2,O⟩:=W;have al:lV w y q.1:=lV.of (p:=q) (fr:=r) F a3 (by simp at s u⊢;omega);have b9:bv=[]:=by have:=ab.1;rw[cL,Hp] at this;simp at this;exact this
  subst b9;simp only[Eh,xJ,Bool.toNat_false,Fe,AA] at ab;obtain⟨av,bt⟩:=P q (dP ..);have Q:j y:=(a4 y).2 (.inl rfl);have S:∀i∈q::r,∀c,i.2 c->j c:=λi h c n=>(a4 c).2 (.inr (.inr ⟨i,h,n⟩));obtain⟨z,cS,rfl,a6,_,_⟩:=Db a3 (by simp);have a5:j z:=(a4 z).2 (.inr (.inl rfl));have J:z≠y:=λa=>b7 (by rw[<-a];rfl);unfold yP;simp only;by_cases R:a.name=L.name
  .rw[WB (λc=>c R)];obtain⟨a0,aw,rfl⟩:=a9.form;obtain⟨ap,ao,rfl,_⟩:=mI ab;have bf:bX w q.2 a (V a0 a.Γ.length aw) (V ap M.length ao):=by obtain⟨cn,bF,cu,Ξ⟩:=a;have bA:Ξ=M.map (·.1):=bz;subst bA;exact .mk cn bF cu M _ _ (a9.mono λc n _=>n.1) (bL.dw ab bB) (λc n=>(bE c n).mono λc n _=>n.1)
   have au:=acd a3;match co,r,O,s,u with
   |[],[],O,s,u=>refine(XS F a6 X al L am R).mono ?_;rintro C a1 ⟨rfl,T,c⟩;refine⟨_,λc=>c=y\/z=c,rfl,rfl,⟨_,[],T,aD au c (λg e a=>J ((cr e).trans a)),λa=>J (cr a),trivial,nofun,λc=>by simp[iM],by simp,ad⟩,c.mono λg e=> .inl (e▸Q),λc n=> .inl (n.elim (λa=>a▸Q) λa=>a▸a5)⟩
   |[cq],[l],O,s,u=>
    refine(XT F a6 X al L am R rfl rfl).mono ?_;rintro C a1 ⟨rfl,T,c⟩
    refine⟨_,λc=>c=y\/z=c\/l.2 c,rfl,⟨_,_,rfl,(bf.keeps c λg e a=>av (a▸e)).mono λg e _=>⟨?_,.inl (S q (dP ..) g e)⟩⟩,
     ⟨_,[l],T,aD au c (λg e a=>J ((cr e).trans a)),λa=>J (cr a),⟨O.1.keeps c λg e a=>(P l (by simp)).1 (a▸e),nofun,trivial⟩,λi h=> ?_,λc=>by simp[iM],by simp,ad⟩,c.mono λg e=> .inl (e▸Q),λc n=> .inl ?_⟩
    .rintro(rfl|rfl|hx2)
     .exact av e
     .exact bt _ rfl e
     exact a2 l (by simp) g e hx2
    .obtain rfl:=cj.1 h;exact P i (by simp)
    obtain rfl|rfl|n:=n
    .exact Q
    .exact a5
    exact S l (by simp) c n
   | .mk cm bx g kk::cq::c0,l::a7::r,O,s,u=>
    obtain⟨⟨⟨bN,cg,t,bw,ba,b0,b2,bc,bd,b3,b4⟩,a8,ck,b5⟩,be,bi⟩:=O;have bb:w.ownsRow 0 84 4 cg (t.length+1) (gU t++bw):=b2;have b1:kk=t.map (·.1):=b0;subst b1;obtain⟨p,cJ,rfl,cI,_,_⟩:=Db bb (by omega);obtain⟨ac,bk⟩:=P l (by simp);have G:l.2 p:=bd p rfl;have ce:p≠y:=λa=>ac (a▸G);have cD:t.length+1<=16:=by have:=b5;simp[El.Ξ] at this;omega
    have aq:∀c,q.2 c->l.2 c->False:=λc n cc=>a2 l (by simp) c n cc;refine(XU (m:=r.length+2) F (by simpa using a6) (by omega) (by simp at s u;omega) X al ba (by omega) (λcv b8 c=>Oz b8 (p:=l) (fr:=a7::r) (aD au c (λg e a=>J ((cr e).trans a))) (by simp at s u⊢;omega)) bb (Hp t) ce (λa=>aq p (a▸cs) G) L am R rfl rfl).mono ?_;rintro C a1 ⟨rfl,T,bs,c⟩;have cf:gU t++[H (D a.name.toArray),V a0 a.Γ.length aw,H (D a.Β.toArray),V ap M.length ao]=gU (t++[(a,V a0 a.Γ.length aw,V ap M.length ao)]):=by simp[gU]
    rw[cf] at bs;have br:∀g,(l.2 g/\g≠l.1/\N p≠N g)->¬(g=y\/g=p):=λg e a=>a.elim (λa=>ac (a▸e.1)) λa=>e.2.2 (by rw[a])
    have b6:od a1 l.1 (.mk cm bx g (t.map (·.1)++[a])) false (λc=>l.2 c\/q.2 c):=by
     refine⟨⟨bN,_,t++[(a,V a0 a.Γ.length aw,V ap M.length ao)],[],c.blk ba (λa=>a.elim (λa=>ac (a▸a8)) λa=>bc (by rw[a];rfl)),by simp[El.Ξ],?_,bc,λB cb=> .inl (bd B cb),?_,?_⟩,.inl a8,λo f=> ?_,?_⟩
     .simpa using bs
     .exact(b3.keeps c br).mono λg e _=>⟨.inl e.1,e.2⟩
     .intro o f;obtain f|f:=dO.1 f
      .exact((b4 o f).keeps c br).mono λg e _=>⟨.inl e.1,e.2⟩
      obtain rfl:=cj.1 f;exact(bf.keeps c λg e a=>a.elim (λa=>av (a▸e)) λa=>aq p (a▸e) G).mono λg e _=>⟨.inr e,λa=>aq _ e (a▸a8),λa=>aq p (by have C:p=_:=cr a;rw[C];exact e) G⟩
     .obtain f|f:=f
      .exact dQ (ck o f) c.size
      exact dQ (ch o f) c.size
     simp[El.Ξ];omega
    have cl:=bi.lt;refine⟨_,λc=>c=y\/z=c\/(l.2 c\/q.2 c)\/∃i∈a7::r,i.2 c,rfl,rfl,⟨_,(l.1,λc=>l.2 c\/q.2 c)::a7::r,T,?_,λa=>J (cr a),⟨b6,?_,?_⟩,?_,?_,?_,ad⟩,?_⟩
    .have:=aD au c (λg e a=>a.elim (λa=>J ((cr e).trans a)) λa=>bk z rfl (by have C:z=g:=cr e;rw[C,a];exact G));rw[wY] at this⊢;exact this
    .intro i h o f bq;obtain f|f:=f
     .exact be i h o f bq
     exact a2 i (eZ _ h) o f bq
    .exact js.keeps bi cl c λi h g e a=>a.elim (λa=>(P i (eZ _ (eZ _ h))).1 (a▸e)) λa=>be i h p G (a▸e)
    .intro i h;obtain rfl|h:=dD.1 h
     .exact⟨λa=>a.elim ac av,λo f a=>a.elim (bk o f) (bt o f)⟩
     exact P i (eZ _ (eZ _ h))
    .intro o;constructor
     .rintro(m|m|m|⟨i,h,m⟩)
      .exact .inl m
      .exact .inr (.inl (by rw[<-m];rfl))
      .exact .inr (.inr ⟨_,dP ..,m⟩)
      exact .inr (.inr ⟨i,eZ _ h,m⟩)
     rintro(m|m|⟨i,h,m⟩)
     .exact .inl m
     .exact .inr (.inl (cr m))
     obtain rfl|h:=dD.1 h
     .exact .inr (.inr (.inl m))
     exact .inr (.inr (.inr ⟨i,h,m⟩))
    .simp at u⊢;omega
    refine⟨c.mono λg e=> .inl (e.elim (λa=>a▸Q) λa=>a▸S l (by simp) p G),λo f=> .inl ?_⟩;obtain rfl|rfl|(f|f)|⟨i,h,f⟩:=f
    .exact Q
    .exact a5
    .exact S l (by simp) o f
    .exact S q (by simp) o f
    exact S i (eZ _ (eZ _ h)) o f
  rw[ahM R];refine(XP F X al L am R).mono ?_;rintro C a1 ⟨rfl,c⟩;exact⟨rfl,by decide,c.any,_,_,_,c.blk F id⟩
def F9(g:Z)(f:Nat)(c:Bs)(l:Int ⊕(Bd×Option Ev))(e:aI)(a:Z):Prop:=
 match l with
 | .inl h=>e=ξ (I E h)/\h≠0/\Y g a c/\∃i b j,θ a f 133 #[i,b,j,I E 0]
 | .inr (b,k)=>k=A/\∃d,e=ξ (I E 0)/\gX a f b d/\Ψ g a c d
theorem aey(a:List El)(b:Nat)(e:Bool)(c:aG)(d:a.length<2):sV ⟨a,b,e⟩ c=if trimS c.Β de=[] then .inr (⟨a,b,false⟩,A) else .inl 3:=by
 match a,d with
 |[],_=>rfl
 |[⟨_,_,_,_⟩],_=>rfl
theorem aeB{o:Bd}(q:gX w y o j)(T:o.ae=false)(n:aG)(Q:x=V b k d)(a4:n.Β.length<=1000000000)(S:∀e∈o.aV.dropLast,e.Β.length<=1000000000):ν δ 93 #[π (N (U y 0 A)),eY n x] w (F9 w y j (sV o n)):=by
 obtain⟨X,bd,bq⟩:=o;simp only at T;subst T;obtain⟨bn,p,h,r,P,l,z,B,s,C⟩:=q;have m:=l.len;simp only at h l s C m S;by_cases i:X.length<2
 .rw[aey _ _ _ _ i];obtain⟨bk,a9,rfl,_⟩:=mI r;have u:=aeD h (by omega) n Q a4;by_cases R:trimS n.Β de=[]
  .rw[ahM R] at u⊢;refine u.mono ?_;rintro M ab ⟨rfl,c⟩;exact⟨rfl,j,rfl,(jf y _).keeps ⟨_,p,h,r,P,l,z,B,s,C⟩ c λ_ _ q=>q,Ψ.bu c j⟩
  rw[WB R] at u⊢;refine u.mono ?_;rintro M ab ⟨rfl,c⟩;exact⟨rfl,by decide,c.any,_,_,_,c.blk h id⟩
 match X,p,l,m,i with
 |[],_,_,_,i=>simp at i
 |[_],_,_,_,i=>simp at i
 | .mk W G F kk::bs::br,f::p,l,m,_=>obtain⟨⟨⟨au,a7,ac,ad,al,am,an,J,ao,ap,aq⟩,t,a8,aw⟩,L,O⟩:=l;have a0:lV w y f.1:=lV.of (p:=f) (fr:=p) h r (by simp at m s⊢;omega);obtain⟨bi,a9,rfl,be,_,_⟩:=Db r (by simp);have a5:F.length<=1000000000:=S (.mk W G F kk) (by simp);obtain⟨bb,bc⟩:=z f (dP ..);have a3:f.2 f.1->j f.1:=λq=>(B _).2 (.inr (.inr ⟨f,dP ..,q⟩));refine(aeC h al (by simp at m⊢;omega) (by simp at m s⊢;omega) a0 n Q (by have bf:(El.mk W G F kk).Β.length<=1000000000:=a5;omega)).mono ?_;rintro M ab ⟨rfl,av,c⟩;refine⟨rfl,j,rfl,⟨_,f::p,c.blk h (λe=>bb (e▸t)),aD r c (λg a e=>bc g a (e▸t)),P,⟨⟨⟨au,a7,ac,ad,av,am,aD an c (λg a e=>J (e▸a)),J,ao,ap.keeps c (λg a e=>a.2.1 e),λa6 a1=>(aq a6 a1).keeps c λg a e=>a.2.1 e⟩,t,λg a=>dQ (a8 g a) c.size,aw⟩,L,js.keeps O O.lt c λba a2 g a e=>L ba a2 f.1 t (e▸a)⟩,z,B,s,C⟩,c.mono λg a=> .inl (a▸a3 t),λg a=> .inl a⟩
theorem nZ.keeps{w l:Z}{F:Bs}{f:Option Ev}(b:nZ w j f x)(d:Y w l F)(k:∀a,j a->a<w.heap.size->¬F a):nZ l j f x:=by
 match f,b with
 |none,b=>exact b
 |some (.head p n),⟨e,g,h⟩=>exact⟨e,g,h.stay d.size λa i c=>d.block a c (k a i c)⟩
 |some (.item o),⟨e,m,g,h⟩=>exact⟨e,m,g,h.stay d.size λa i c=>d.block a c (k a i c)⟩
 |some .ak,b=>exact b
theorem nZ.mono{S':Bs}{c:Option Ev}(a:nZ w j c x)(g:∀f,j f->f<w.heap.size->S' f):nZ w S' c x:=by
 match c,a with
 |none,a=>exact a
 |some (.head l i),⟨b,d,e⟩=>exact⟨b,d,e.mono g⟩
 |some (.item k),⟨b,h,d,e⟩=>exact⟨b,h,d,e.mono g⟩
 |some .ak,a=>exact a
def A'(v:ε):Prop:=∃(d:Int) (h:Bt) (c:Option ay) (b a:Nat) (i:Bt) (g:Option ay) (f e:Nat),v=dT d h (V c b a) i (V g f e)
theorem Ic:A' fy:=⟨0,[],A,0,0,[],A,0,0,rfl⟩
theorem nZ.form{d:Option Ev}(a:nZ w j d x):A' x:=by
 match d,a with
 |none,a=>exact a▸Ic
 |some (.head m h),⟨e,b,c⟩=>obtain⟨g,f,rfl⟩:=c.form;exact⟨_,_,_,_,_,_,_,_,_,b⟩
 |some (.item k),⟨e,l,b,c⟩=>obtain⟨⟨g,f,rfl⟩,n,i,rfl⟩:=c.form;exact⟨_,_,_,_,_,_,_,_,_,b⟩
 |some .ak,a=>exact⟨_,_,_,_,_,_,_,_,_,a⟩
theorem jv.form(a:jv w y j R X n):∃v c b,X=ξ (σ #[v,ι c,I E b])/\A' v/\Y w n j:=by
 match R,a with
 | .inl b,a=>exact⟨_,_,_,a.1,Ic,a.2.2.1⟩
 | .inr (h,i),⟨v,g,d,e,k,f⟩=>exact⟨_,_,_,d,e.form,f.keeps⟩
theorem jv.after{q:Z}(hF:∀b,j b->b<w.heap.size)(u:j y)(f:Y w n j)(B:w.heap.size<=k)(C:k<n.heap.size)(a:jv n y j R X G)(e:Y G q (·=k)):jv w y j R X q:=by
 match R,a with
 | .inl d,⟨h,t,i,r,g,s,l⟩=>exact⟨h,t,(f.trans i λ_ a=> .inl a).trans e λ_ a=> .inr (by omega),r,g,s,e.blk l (by have:=hF y u;omega)⟩
 | .inr (g,z),⟨v,m,h,i,l,o⟩=>
  have p:∀b,m b->j b\/n.heap.size<=b:=o.fresh;refine⟨v,m,h,?_,(jf y g).keeps l e λd c X=> ?_,⟨(f.trans o.keeps λ_ a=> .inl a).trans e λ_ a=> .inr (by omega),λb x=> ?_⟩⟩
  .refine(i.keeps e λd c _ X=> ?_).mono λd c _=>⟨c.1,c.2.elim .inl λa=> .inr (aJ f.size a)⟩;obtain a|a:=c.2
   .have:=hF d a;omega
   omega
  .obtain a|a:=p d c
   .have:=hF d a;omega
   omega
  exact(p b x).elim .inl λa=> .inr (aJ f.size a)
theorem pD{c:ε}(a:θ w y 86 #[x,i,t,B,c]):(∀b,b<5->w.frozen? (U y b A)=false)/\w.cell? (U y 0 A)=N x/\w.cell? (U y 1 A)=N i/\w.cell? (U y 2 A)=N t/\w.cell? (U y 3 A)=N B/\w.cell? (U y 4 A)=N c:=by
 refine⟨λb _=>a.frozen b,?_,?_,?_,?_,?_⟩
 .simpa using a.cell 0
 .simpa using a.cell 1
 .simpa using a.cell 2
 .simpa using a.cell 3
 simpa using a.cell 4
theorem Y.five{b:ε}(a:Y w n (·=y)):Y w (((((n.setCell (U y 0 A) x).setCell (U y 1 A) i).setCell (U y 2 A) t).setCell (U y 3 A) B).setCell (U y 4 A) b) (·=y):=a.bC.bC.bC.bC.bC
theorem F9.oQ(h:F9 w y j R X n):∃c,X=ξ (I E c)/\Y w n j/\jv w y j R (ξ (σ #[fy,ι false,I E c])) n:=by
 match R,h with
 | .inl c,⟨e,d,a,b⟩=>exact⟨c,e,a,rfl,d,a,b⟩
 | .inr (g,A),⟨_,f,e,a,b⟩=>exact⟨0,e,b.keeps,fy,f,rfl,rfl,a,b⟩
 | .inr (g,N i),⟨d,_⟩=>cases d
theorem aev{d:Bd}{S:Bs}(t:gX w y d j)(aH:oe d)(a:aG)(aq:aU w S x a.Γ)(aS:∀l,S l->¬j l)(a6:a.Γ.length<=1000)(be:a.Β.length<=1000000):ν δ 62 #[π (N (U y 0 A)),eY a x] w (jv w y j (fR d a)):=by
 have hF:=λl=>(jf y d).lt (w:=w) (F:=j) t l;obtain⟨r,q,rfl⟩:=aq.form;have aT:Y w (w.alloc (ζ #[I E a.Θ,H (D a.name.toArray),V r a.Γ.length q,H (D a.Β.toArray)] 81)) γ:=(Y.refl w γ).alloc _;have ah:Y w ((w.alloc (ζ #[I E a.Θ,H (D a.name.toArray),V r a.Γ.length q,H (D a.Β.toArray)] 81)).alloc (ζ #[I E 0,H (D #[]),V A 0 0,H (D #[]),V A 0 0] 86)) γ:=aT.alloc _;have t2:θ ((w.alloc (ζ #[I E a.Θ,H (D a.name.toArray),V r a.Γ.length q,H (D a.Β.toArray)] 81)).alloc (ζ #[I E 0,H (D #[]),V A 0 0,H (D #[]),V A 0 0] 86)) w.heap.size 81 #[I E a.Θ,H (D a.name.toArray),V r a.Γ.length q,H (D a.Β.toArray)]:=(θ.new _ _ _).alloc _;have aW:θ ((w.alloc (ζ #[I E a.Θ,H (D a.name.toArray),V r a.Γ.length q,H (D a.Β.toArray)] 81)).alloc (ζ #[I E 0,H (D #[]),V A 0 0,H (D #[]),V A 0 0] 86)) (w.heap.size+1) 86 #[I E 0,H (D #[]),V A 0 0,H (D #[]),V A 0 0]:=θ.dA _ _ _ _;have aP:=aq.keeps ah λ_ _ t=>t;have a1:=(jf y d).keeps t ah λ_ _ t=>t;obtain⟨bf,aR,aQ,aF,aE,ad,aI,dec,aB,cnt⟩:=a1;have aw:=ad.len;obtain⟨ba,a9,rfl,_⟩:=mI aF;have s:j y:=(dec y).2 (.inl rfl);have bc:=hF y s;have aO:=Ys aQ aw (aw▸aB) cnt a (rfl:V r a.Γ.length q=_);have ar:gj d a=0->∀o,Y ((w.alloc (ζ #[I E a.Θ,H (D a.name.toArray),V r a.Γ.length q,H (D a.Β.toArray)] 81)).alloc (ζ #[I E 0,H (D #[]),V A 0 0,H (D #[]),V A 0 0] 86)) o (·=y)->θ o y 133 #[V ba aR.length a9,I E (jL d),ι d.ae,I E 0]->gX o y ⟨d.aV,jL d,d.ae⟩ j:=λi o l h=>⟨_,aR,h,aD aF l (λm k c=>aE (c▸k)),aE,ad.keeps ad.lt l λbb a8 m k c=>(aI bb a8).1 (c▸k),aI,dec,aB,by have:=Mo (t:=a) aH i;simp only;omega⟩;have ak:=K t2;have ac:=K aW;have aY:=K aP;have ab:=K ah;have aa:=K aO;have L:=K hF;have a0:=K aS;have aZ:=K λ(t:d.aV.length<=0)=>t;clear aT ah t2 aW aP t aQ aF aE ad aI dec aO hF aq aw aB cnt aZ aS;unfold fR;unfold eY at*;by_cases i:gj d a=0
 .have aj:=K i;have ai:=K (ar i);have ax:=(se i).1;have au:=(se i).2.1;have av:=(se i).2.2.1;have af:=(se i).2.2.2.1;rw[WB (λl=>l i)];clear ar i;unfold wQ;by_cases z:a.Θ=1
  .rw[ahM z];have a5:(a.Θ==1)=true:=beq_iff_eq.2 z;clear au av af z;go_enter func62,JQ;go_wp2_with fail;refine aa.out.mono ?_;rintro c o ⟨rfl,e,ao,h,f⟩;rw[aj.out] at f⊢;have f:=f rfl;subst f;have T:=ab.out.any.trans e λm k=> .inl (k▸s);have t3:=e.blk ak.out (by omega);have g:=e.blk ac.out (by omega);have u:=ai.out o e h;have B:=t3.cell 0;have C:=t3.cell 1;have F:=t3.cell 2;have G:=t3.cell 3;simp only[gz_] at B C F G;have W:=g.lt;have p:=VD u ax a (aY.out.keeps e λm k c=>a0.out m k (c▸s)) a6;have p:=K p;clear u h t3;go_wp2_with fail;refine p.out.mono ?_;intro c aX n;obtain⟨v,ap,m,rfl,⟨l,aC,an,am,al,aJ,aA,az,ay,rfl⟩,X⟩:=n.form;obtain⟨b,y0,M,O,P,Q⟩:=pD (X.blk g (λc=>by have:=L.out _ c;omega));have z0:=b 0 (by decide);have aK:=b 1 (by decide);have aL:=b 2 (by decide);have aM:=b 3 (by decide);have aN:=b 4 (by decide);have J:=K n;clear n b g B C F G;unfold dT at*;go_wp2;refine Ω (v:=σ #[dT l aC (V an am al) aJ (V aA az ay),ι ap,I E m]) (by simp[ag,JS,go_sem,dT,y0,M,O,P,Q]) rfl ?_;exact jv.after L.out s T (by omega) W J.out (Y.refl _ _).five
  rw[WB z];have a5:(a.Θ==1)=false:=ahO z;by_cases R:a.Θ=2
  .rw[ahM R];have a4:(a.Θ==2)=true:=beq_iff_eq.2 R;have a7:d.aV≠[]:=λc=>z (af c);clear au av af z R;go_enter func62,JQ;go_wp2_with fail;refine aa.out.mono ?_;rintro c o ⟨rfl,e,ao,h,f⟩;rw[aj.out] at f⊢;have f:=f rfl;subst f;have T:=ab.out.any.trans e λm k=> .inl (k▸s);have t3:=e.blk ak.out (by omega);have g:=e.blk ac.out (by omega);have u:=ai.out o e h;have B:=t3.cell 0;have C:=t3.cell 1;have F:=t3.cell 2;have G:=t3.cell 3;simp only[gz_] at B C F G;have W:=g.lt;have p:=XQ u ax a7 a (rfl:V r a.Γ.length q=_);have p:=K p;clear u h t3;go_wp2_with fail;refine p.out.mono ?_;intro c aX n;obtain⟨v,ap,m,rfl,⟨l,aC,an,am,al,aJ,aA,az,ay,rfl⟩,X⟩:=n.form;obtain⟨b,y0,M,O,P,Q⟩:=pD (X.blk g (λc=>by have:=L.out _ c;omega));have z0:=b 0 (by decide);have aK:=b 1 (by decide);have aL:=b 2 (by decide);have aM:=b 3 (by decide);have aN:=b 4 (by decide);have J:=K n;clear n b g B C F G;unfold dT at*;go_wp2;refine Ω (v:=σ #[dT l aC (V an am al) aJ (V aA az ay),ι ap,I E m]) (by simp[ag,JS,go_sem,dT,y0,M,O,P,Q]) rfl ?_;exact jv.after L.out s T (by omega) W J.out (Y.refl _ _).five
  rw[WB R];have a4:(a.Θ==2)=false:=ahO R;have a2:∀c∈d.aV.dropLast,c.Β.length<=1000000000:=λc a3=>by have:=aH.Β c a3;have:=aH.bP;omega
  clear au av af z R;go_enter func62,JQ;go_wp2_with fail;refine aa.out.mono ?_;rintro c o ⟨rfl,e,ao,h,f⟩;rw[aj.out] at f⊢;have f:=f rfl;subst f;have T:=ab.out.any.trans e λm k=> .inl (k▸s);have t3:=e.blk ak.out (by omega);have g:=e.blk ac.out (by omega);have u:=ai.out o e h;have B:=t3.cell 0;have C:=t3.cell 1;have F:=t3.cell 2;have G:=t3.cell 3;simp only[gz_] at B C F G;have W:=g.lt;have p:=aeB u ax a (rfl:V r a.Γ.length q=_) (by omega) a2;have p:=K p;clear u h t3;go_wp2_with fail;refine p.out.mono ?_;intro c aX n;obtain⟨m,rfl,X,n⟩:=n.oQ;obtain⟨b,y0,M,O,P,Q⟩:=pD (X.blk g (λc=>by have:=L.out _ c;omega));have z0:=b 0 (by decide);have aK:=b 1 (by decide);have aL:=b 2 (by decide);have aM:=b 3 (by decide);have aN:=b 4 (by decide);have J:=K n;clear n b g B C F G;go_wp2;refine Ω (v:=σ #[fy,ι false,I E m]) (by simp[ag,JS,go_sem,dT,fy,y0,M,O,P,Q]) rfl ?_;exact jv.after L.out s T (by omega) W J.out (Y.refl _ _).five
 rw[ahM i];have bd:(gj d a !=0)=true:=bne_iff_ne.2 i;clear ar;go_enter func62,JQ;go_wp2_with fail;refine aa.out.mono ?_;rintro c o ⟨rfl,e,ao,h,_⟩;have g:=e.blk ac.out (by omega);obtain⟨b,y0,M,O,P,Q⟩:=pD g;have z0:=b 0 (by decide);have aK:=b 1 (by decide);have aL:=b 2 (by decide);have aM:=b 3 (by decide);have aN:=b 4 (by decide);have J:η (jv ((w.alloc (ζ #[I E a.Θ,H (D a.name.toArray),V r a.Γ.length q,H (D a.Β.toArray)] 81)).alloc (ζ #[I E 0,H (D #[]),V A 0 0,H (D #[]),V A 0 0] 86)) y j (.inl (gj d a)) (ξ (σ #[fy,ι false,I E (gj d a)])) o):=K ⟨rfl,i,e.mono λm k=> .inl (k▸s),_,_,_,h⟩;clear b g h;go_wp2;refine Ω (v:=σ #[fy,ι false,I E (gj d a)]) (by simp[ag,JS,go_sem,dT,fy,y0,M,O,P,Q]) rfl ?_;exact jv.after L.out s ab.out.any (by omega) (by simp) J.out (Y.refl _ _).five
def kM(e:Z)(j:Nat)(b:Bs)(k:Int ⊕(Bd×Option Ev))(f:aI)(a:Z):Prop:=
 match k with
 | .inl h=>f=ξ (σ #[fy,ι false,I E h])/\h≠0/\Y e a b
 | .inr (i,g)=>∃v c,f=ξ (σ #[v,ι g.isSome,I E 0])/\nZ a (λd=>¬c d/\(b d\/e.heap.size<=d)) g v/\gX a j i c/\Ψ e a b c
theorem gX.XZ{c:Bd}(k:gX w y c j):gX (w.setCell (U y 3 A) (I E 0)) y c j:=by obtain⟨o,i,h,n,f,d,g,dec,m,cnt⟩:=k;have e:Y w (w.setCell (U y 3 A) (I E 0)) (·=y):=(Y.refl w (·=y)).χ (p:=(U y 3 A)) (.inl rfl) _;exact⟨o,i,(h.χ 3 _).to (by simp),aD n e (λq b a=>f (a▸b)),f,d.keeps d.lt e λp l q b a=>(g p l).1 (a▸b),g,dec,m,cnt⟩
theorem gX.yK{a:Bd}(e:gX w y a j):(∃b a d,θ w y 133 #[b,a,d,I E 0])/\j y:=by obtain⟨l,f,c,k,i,g,m,dec,h,cnt⟩:=e;exact⟨⟨_,_,_,c⟩,(dec y).2 (.inl rfl)⟩
theorem jv.yK(a:jv w y j R X n):∃c b d,θ n y 133 #[c,b,d,I E 0]:=by
 match R,a with
 | .inl h,a=>exact a.2.2.2
 | .inr (b,g),⟨v,f,_,_,e,_⟩=>exact e.yK.1
theorem jv.put(p:j y)(b:jv w y j R (ξ (σ #[x,ι f,I E m])) n)(c:Obj):kM w y j R (ξ (σ #[x,ι f,I E m])) ((n.alloc c).setCell (U y 3 A) (I E m)):=by
 have h:∀j:Bs,j y->Y n ((n.alloc c).setCell (U y 3 A) (I E m)) j:=λj hF=>((Y.refl n j).alloc c).χ (p:=(U y 3 A)) (.inl hF) _;match R,b with
 | .inl u,⟨a,o,d,_⟩=>exact⟨a,o,d.trans (h j p) λ_ b=> .inl b⟩
 | .inr (l,z),⟨t,F',a,d,i,g⟩=>
  have q:m=0:=by injection a with a;injection a with a;have:=congrArg (λs:Array ε=>s[2]?) a;simp at this;exact this
  subst q;have k:=i.yK.2;refine⟨t,F',a,d.keeps (h (·=y) rfl) λu r _ e=>r.1 (e▸k),((jf y l).keeps i ((Y.refl n γ).alloc c) λ_ _ b=>b).XZ,g.keeps.trans (h F' k) λ_ b=>g.fresh _ b,g.fresh⟩
theorem kM.after{o:Z}(hF:∀b,j b->b<w.heap.size)(e:Y w n j)(u:w.heap.size<=k)(x:k<n.heap.size)(a:kM n y j R X G)(f:Y G o (·=k)):kM w y j R X o:=by
 match R,a with
 | .inl d,⟨g,q,h⟩=>exact⟨g,q,(e.trans h λ_ a=> .inl a).trans f λ_ a=> .inr (by omega)⟩
 | .inr (p,t),⟨v,i,g,h,r,l⟩=>
  have m:∀b,i b->j b\/n.heap.size<=b:=l.fresh;refine⟨v,i,g,?_,(jf y p).keeps r f λd c X=> ?_,⟨(e.trans l.keeps λ_ a=> .inl a).trans f λ_ a=> .inr (by omega),λb s=> ?_⟩⟩
  .refine(h.keeps f λd c _ X=> ?_).mono λd c _=>⟨c.1,c.2.elim .inl λa=> .inr (aJ e.size a)⟩;obtain a|a:=c.2
   .have:=hF d a;omega
   omega
  .obtain a|a:=m d c
   .have:=hF d a;omega
   omega
  exact(m b s).elim .inl λa=> .inr (aJ e.size a)
theorem Uq{q:Bd}{S:Bs}(f:gX w y q j)(ap:oe q)(a:aG)(u:aU w S x a.Γ)(O:∀b,S b->¬j b)(am:a.Γ.length<=1000)(an:a.Β.length<=1000000):ν δ 33 #[π (N (U y 0 A)),eY a x] w (kM w y j (fR q a)):=by
 have hF:=λb=>(jf y q).lt (w:=w) (F:=j) f b;obtain⟨p,o,rfl⟩:=u.form;have Q:Y w (w.alloc (ζ #[I E a.Θ,H (D a.name.toArray),V p a.Γ.length o,H (D a.Β.toArray)] 81)) γ:=(Y.refl w γ).alloc _;have s:Y w ((w.alloc (ζ #[I E a.Θ,H (D a.name.toArray),V p a.Γ.length o,H (D a.Β.toArray)] 81)).alloc (ζ #[I E 0,H (D #[]),V A 0 0,H (D #[]),V A 0 0] 86)) γ:=Q.alloc _;have t2:θ ((w.alloc (ζ #[I E a.Θ,H (D a.name.toArray),V p a.Γ.length o,H (D a.Β.toArray)] 81)).alloc (ζ #[I E 0,H (D #[]),V A 0 0,H (D #[]),V A 0 0] 86)) w.heap.size 81 #[I E a.Θ,H (D a.name.toArray),V p a.Γ.length o,H (D a.Β.toArray)]:=(θ.new _ _ _).alloc _;have W:θ ((w.alloc (ζ #[I E a.Θ,H (D a.name.toArray),V p a.Γ.length o,H (D a.Β.toArray)] 81)).alloc (ζ #[I E 0,H (D #[]),V A 0 0,H (D #[]),V A 0 0] 86)) (w.heap.size+1) 86 #[I E 0,H (D #[]),V A 0 0,H (D #[]),V A 0 0]:=θ.dA _ _ _ _;have G:=u.keeps s λ_ _ f=>f;have t:=(jf y q).keeps f s λ_ _ f=>f;obtain⟨⟨aw,ax,ay,m⟩,P⟩:=t.yK;have aj:=m.cell 3;have aa:=t2.cell 0;have ab:=t2.cell 1;have ac:=t2.cell 2;have ad:=t2.cell 3;simp only[gz_] at aa ab ac ad aj;have ae:=K (aev t ap a G O am an);have ai:=K W;have ah:=K s;have L:=K hF;have aD:=hF y P;clear Q s t2 W G t m u f hF O;unfold eY at*;go_enter func33,ntmps33;go_wp2_with fail;refine ae.out.mono ?_;intro J C r;obtain⟨v,ak,F,rfl,⟨b,k,e,d,c,l,i,h,g,rfl⟩,ao⟩:=r.form;obtain⟨aK,aL,aM,m⟩:=r.yK;have B:=ao.blk ai.out (λJ=>by have:=L.out _ J;omega);have aA:=B.lt;have aC:y≠w.heap.size+1:=by omega
 have M:=r.put P (ζ #[I E b,H (D k.toArray),V e d c,H (D l.toArray),V i h g] 86);have z:=m.alloc (ζ #[I E b,H (D k.toArray),V e d c,H (D l.toArray),V i h g] 86);have az:=z.frozen 3;have al:=z.cell 3;have aB:w.heap.size+1<(C.alloc (ζ #[I E b,H (D k.toArray),V e d c,H (D l.toArray),V i h g] 86)).heap.size:=by simp;omega
 have R:θ (C.alloc (ζ #[I E b,H (D k.toArray),V e d c,H (D l.toArray),V i h g] 86)) C.heap.size 86 #[I E b,H (D k.toArray),V e d c,H (D l.toArray),V i h g]:=θ.new _ _ _;have T:=R.far (p:=(U y 3 A)) (by have:=m.lt;simp only;omega) (I E F);have X:=(B.alloc (ζ #[I E b,H (D k.toArray),V e d c,H (D l.toArray),V i h g] 86)).far (p:=(U y 3 A)) (by simp only;omega) (I E F);obtain⟨n,y0,aq,ar,au,av⟩:=pD X;have z0:=n 0 (by decide);have aN:=n 1 (by decide);have aO:=n 2 (by decide);have aP:=n 3 (by decide);have aQ:=n 4 (by decide);obtain⟨_,aE,aF,aH,aI,aJ⟩:=pD T;simp only[gz_] at al;have af:=K M;clear r M n B X R T m z aa ab ac ad;unfold dT at*;go_wp2;refine Ω (v:=σ #[dT b k (V e d c) l (V i h g),ι ak,I E F]) (by simp[ag,results33,go_sem,dT,y0,aq,ar,au,av]) rfl ?_;exact kM.after L.out ah.out.any (by omega) (by simp) af.out (Y.refl _ _).five
theorem aeT(a:Z):ν δ 29 #[] a λf e=>∃d c,f=ξ (π (N (U d 0 A)))/\gX e d ⟨[],0,false⟩ c/\Ψ a e γ c:=by
 go_enter func29,ntmps29;go_wp2;all_goals go_ret
 all_goals
  refine⟨a.heap.size,λb=>b=a.heap.size,rfl,?_,⟨(Y.refl a γ).alloc _,λb g=> .inr (by omega)⟩⟩;exact⟨V A 0 0,[],θ.new _ _ _,db _ _ _ _,by simp[iM],trivial,by simp,λb=>by simp[iM],by simp,by simp⟩
def gi(b:At)(nm:Bt):Option Bt:=(b.find? λa=>a.1==nm).map (·.2)
def we(c:Bt)(a:ε)(d:Bt)(b:ε):ε:=Μ #[H (D c.toArray),a,H (D d.toArray),b]
theorem Vn{nm:Bt}(e:w.cell? (U y 0 A)=N (H (D nm.toArray)))(a:Bt×Bt):ν δ 156 #[Μ #[H ⟨a.1.toArray⟩,H ⟨a.2.toArray⟩],π (N (U y 0 A))] w λd f=>d=ξ (ι (a.1==nm))/\Y w f γ:=by obtain⟨b,c⟩:=a;have g:=az (((Y.refl w γ).alloc (ζ #[H (D b.toArray),H (D c.toArray)] 231))) e id;go_enter func156,ntmps156;go_wp2;go_ret;exact⟨lc (by simp),(Y.refl _ _).alloc _⟩
theorem Yn(b:At)(nm:Bt)(c:Nat)(d:b.findIdx? (λa=>a.1==nm)=N c):∃a,b[c]? =N a/\gi b nm=N a.2:=by
 rw[List.findIdx?_eq_some_iff_getElem] at d;obtain⟨e,f,g⟩:=d;refine⟨b[c],cT e,?_⟩;unfold gi;have:b.find? (λa=>a.1==nm)=N b[c]:=by rw[List.find?_eq_some_iff_getElem];exact⟨f,c,e,rfl,λi h=>by simpa using g i h⟩
 rw[this];rfl
theorem Kb{n x nm:Bt}{u:ε}{kp:Option ay}{kn kc:Nat}(c:aU w j u W)(Q:W.length<=1000):ν δ 94 #[we n u x (V kp kn kc),H (D nm.toArray)] w λl R=>l=ξ (σ #[H ⟨((gi W nm).getD []).toArray⟩,ι (gi W nm).isSome])/\Y w R γ:=by
 obtain⟨e,i,rfl⟩:=c.form;have o:Y w ((w.alloc (ζ #[H (D n.toArray),V e W.length i,H (D x.toArray),V kp kn kc] 84)).alloc (ζ #[H (D nm.toArray)] 9)) γ:=((Y.refl w γ).alloc _).alloc _;have k:θ ((w.alloc (ζ #[H (D n.toArray),V e W.length i,H (D x.toArray),V kp kn kc] 84)).alloc (ζ #[H (D nm.toArray)] 9)) w.heap.size 84 #[H (D n.toArray),V e W.length i,H (D x.toArray),V kp kn kc]:=(θ.new _ _ _).alloc _;have y:θ ((w.alloc (ζ #[H (D n.toArray),V e W.length i,H (D x.toArray),V kp kn kc] 84)).alloc (ζ #[H (D nm.toArray)] 9)) (w.heap.size+1) 9 #[H (D nm.toArray)]:=θ.dA _ _ _ _;have m:=c.keeps o λ_ _ c=>c;have h:=K (NV m Q 156 #[π (N ⟨w.heap.size+1,0,A⟩)] (enters_of func156 (by kernel_rfl) rfl) (λb=>b.1==nm) λT a b _=>Vn (az a (y.cell 0) id) b);have O:=k.cell 1;simp only[gz_] at O;have p:=K m;have q:=K o;have L:=K k;clear o k y m c;unfold we;cases d:W.findIdx? (λb=>b.1==nm) with
 |none=>
  have f:gi W nm=A:=by unfold gi;rw[List.findIdx?_eq_none_iff] at d;rw[lM.2 (by simpa using d)];rfl
  rw[f];rw[d] at h;clear d f;go_enter func94,ntmps94;go_wp2_with fail;refine h.out.mono ?_;rintro l S ⟨rfl,g⟩;unfold wH;go_wp2;exact Ω (v:=σ #[H (D #[]),ι false]) (by simp[ag,results94,go_sem]) rfl ⟨rfl,q.out.trans g Η⟩
 |some a=>
  obtain⟨b,z,f⟩:=Yn W nm a d;rw[f];rw[d] at h;have ac:a<W.length:=(iN.1 z).1;obtain⟨M,r⟩:=b;clear d f;go_enter func94,ntmps94;go_wp2_with fail;refine h.out.mono ?_;rintro l S ⟨rfl,g⟩;obtain⟨_,an,ab,e0,_,_,F,C⟩:=p.out.keeps g λ_ _ c=>c;injection e0 with e0 _ _;subst e0;cases e with
  |none=>exact ahN (F rfl).1 (by omega)
  |some s=>
   obtain⟨G,_,_,B⟩:=C s rfl;obtain⟨X,t,ao⟩:=s;simp only at G;subst G;have J:=B (a*2+1) _ (yI W a (M,r) z).2;have P:=(g.blk L.out id).cell 1;simp only[gz_] at P;simp only at J;rw[show t+(a*2+1)=t+a*2+1 from by omega] at J;have ad:¬(a:Int)<0:=by omega
   have al:(a:Int)<W.length:=by omega
   have am:(W.length:Int)<=9223372036854775807:=by omega
   unfold wH;simp only;clear F C B p;go_wp2;exact Ω (v:=σ #[H (D r.toArray),ι true]) (by simp[ag,results94,go_sem]) rfl ⟨rfl,q.out.trans g Η⟩
section
open Go.Sort Go.Shelf
def me:BA:=(D #[97,98,99,100,101,102,103,104,105,106,107,108,109,110,111,112,113,114,115,116,117,118,119,120,121,122,48,49,50,51,52,53,54,55,56,57])
def rS(b:BA):Bool:=b.data.toList.all λa=>me.data.toList.contains a
def aN(a:BA):Bool:= !a.toList.isEmpty&&decide (a.size<=16)&&rS a
theorem Hy:∀(b:Nat) a,me.data.toList[b]? =N a->a.toNat<128:=by
 have:me.data.toList.all (λa=>decide (a.toNat<128))=true:=by decide
 intro b a c;exact of_decide_eq_true (xS.1 this a (ln c))
theorem aaz(f:Z)(a:UInt8)(g:me.data.toList.contains a=true):ν δ 84 #[I .i32 (a.toNat:Int)] f λb j=>b=ξ (ι false)/\j=f:=by
 have l:a.toNat<128:=by obtain⟨e,d,b⟩:=List.getElem_of_mem (EK.1 g);exact Hy e a (by rw[cT d,b])
 have i:(0:Int)<=tG me.data.toList a:=by
  have k:=indexByte_ge me.data.toList a;by_cases h:tG me.data.toList a= -1
  .obtain⟨e,d,b⟩:=List.getElem_of_mem (EK.1 g);exact ahN (by rw[cT d,b]) (indexByte_none h e)
  omega
 have c:=agE me (a.toNat:Int) f (by omega) (by omega);rw[show((a.toNat:Int)).toNat.toUInt8=a by simp,decide_eq_true i] at c;have c:=K c;unfold me at c;go_enter func84,ntmps84;go_wp2_with fail;refine c.out.mono ?_;rintro b m ⟨rfl,rfl⟩;go_wp2;all_goals(go_ret;exact⟨rfl,rfl⟩)
theorem UX(b:rS p=true)(a:Nat)(d:a<p.size):me.data.toList.contains p[a]=true:=by
 unfold rS at b;have c:p.data.toList[a]? =N p[a]:=by rw[Ee];exact ql d
 exact xS.1 b _ (ln c)
theorem aaB{a:UInt8}(c:me.data.toList.contains a=true):a.toNat<128:=by obtain⟨e,d,b⟩:=List.getElem_of_mem (EK.1 c);exact Hy e a (by rw[cT d,b])
theorem aaD(a:Z)(c:BA)(p:rS c=true):ν δ 205 #[H c,af (.func 84) #[] #[],ι true] a λi q=>i=ξ (I E (-1))/\Y a q γ:=by
 have u:∀args a,(callFunc 84 args).run δ a= .ok (.enter 84 args) a:=enters_of func84 (by kernel_rfl) rfl;go_enter func205,ntmps205;go_wp2;go_loopg [] c.size (λm wr=>∃b:Nat,b<=c.size/\wr.heap[a.heap.size]? =N (.stringIter c b)/\Y a wr γ/\c.size<=b+m)
 case atStart=>exact⟨0,ai _,World.iter_heap a c 0,(Y.refl a γ).alloc _,by omega⟩
 obtain⟨b,x,hit,g,w⟩:=hrel;by_cases e:b<c.size
 .obtain⟨f,rfl⟩:∃f,gk=f+1:=⟨gk-1,by omega⟩;have k:∀d,(Am (π (N (U a.heap.size 0 A))) true d).run δ wr=_:=λd=>Lib.run_next_any_at wr a.heap.size c b d hit e;have h:=UX p b e;have j:=decode_ascii c b e (aaB h);rw[j] at k;have o:=JJ wr a.heap.size c b (b+1) hit;have n:Y a (wr.iterAt a.heap.size c (b+1)) γ:=Y.of_below (JG g.below (k:=a.heap.size) (Ο _) c (b+1)) γ;have l:=K (aaz (wr.iterAt a.heap.size c (b+1)) _ h);clear j h hit g;generalize c[b]=t at*;generalize wr.iterAt a.heap.size c (b+1)=r at*;go_wp2_with (go_at_fn 84;refine l.out.mono ?_;rintro i s ⟨rfl,rfl⟩);go_roundg f
  case measure=>omega
  case rel=>exact⟨b+1,by omega,o,n,by omega⟩
 have k:∀d,(Am (π (N (U a.heap.size 0 A))) true d).run δ wr=_:=λd=>Lib.run_next_end_at wr a.heap.size c b d hit e;go_wp2;go_ret;exact⟨rfl,g⟩
theorem aaC(b:Z)(c:BA)(h:rS c=true):ν δ 83 #[H c,af (.func 84) #[] #[]] b λa e=>a=ξ (ι false)/\Y b e γ:=by
 have f:=K (aaD b c h);have g:RowKit.Hid (ν δ 146 #[H c,af (.func 84) #[] #[]] b λa e=>a=ξ (I E (-1))/\Y b e γ):=by unfold RowKit.Hid;go_enter func146,ntmps146;go_wp2_with fail;refine f.out.mono ?_;rintro a i ⟨rfl,d⟩;go_wp2;all_goals(go_ret;exact⟨rfl,d⟩)
 go_enter func83,ntmps83;go_wp2_with fail;refine g.out.mono ?_;rintro a i ⟨rfl,d⟩;go_wp2;all_goals(go_ret;exact⟨rfl,d⟩)
theorem MR{b:UInt8->Bool}:∀(a:List UInt8),a.dropWhile b=[]↔a.all b=true
 |[]=>by simp
 |d::a=>by
  rw[List.dropWhile_cons];cases c:b d with
  |true=>simp[MR a,c]
  |false=>simp[c]
theorem MQ{b:UInt8->Bool}:∀(a:List UInt8),(a.dropWhile b).all b=a.all b
 |[]=>rfl
 |d::a=>by
  rw[List.dropWhile_cons];cases c:b d with
  |true=>simp[MQ a,c]
  |false=>simp[c]
theorem ae0(b a:List UInt8):(Lib.trimS b a).isEmpty=b.all λc=>a.contains c:=by unfold Lib.trimS Lib.trimLeftS Lib.trimRightS;rw[Bool.eq_iff_iff,List.isEmpty_iff,MR,List.all_reverse,MQ,List.all_reverse]
theorem afg:(prog.info? 218).map (λa=>(a.zero,a.size))=N (N (Μ (Aj 256 (ι false))),256):=by kernel_rfl
theorem ae1(b:Z)(a:BA)(h:a.size<=1000000000000):ν δ 82 #[H a,H me] b λd f=>(∃e:BA,d=ξ (H e)/\e.toList.isEmpty=rS a)/\Y b f γ:=by have c:=Any.strings_Trim_laid Q7 afg a me b (by omega) (by decide) Hy;change ν δ 82 _ _ _ at c;refine c.mono ?_;rintro d f ⟨rfl,g⟩;refine⟨⟨_,rfl,?_⟩,Y.of_below g γ⟩;unfold rS;rw[<-ae0,ByteArray.toList_eq]
theorem nT(c:Z)(a:BA)(o:a.size<=1000000000000):ν δ 54 #[H a] c λd r=>d=ξ (ι (aN a))/\Y c r γ:=by
 have b:=K (ae1 c a o);unfold aN;unfold me at b;by_cases g:a.toList.isEmpty=true
 .rw[g];go_enter Es,ntmps54;go_wp2;all_goals(go_ret;exact⟨rfl,Y.refl c γ⟩)
 have l:a.toList.isEmpty=false:=by simpa using g
 have j:=K λ(k:Z)=>aaC k a;by_cases h:a.size<=16
 .have m:(a.size:Int)<=16:=by omega
  cases e:rS a with
  |true=>rw[e] at b;go_enter Es,ntmps54;go_wp2_with fail;refine b.out.mono ?_;rintro d i ⟨⟨q,rfl,n⟩,f⟩;go_wp2_with fail;refine(j.out i e).mono ?_;rintro d s ⟨rfl,p⟩;go_wp2;all_goals(go_ret;exact⟨by simp[l,h],f.trans p Η⟩)
  |false=>rw[e] at b;go_enter Es,ntmps54;go_wp2_with fail;refine b.out.mono ?_;rintro d i ⟨⟨q,rfl,n⟩,f⟩;go_wp2;all_goals(go_ret;exact⟨by simp,f⟩)
 have m:¬(a.size:Int)<=16:=by omega
 go_enter Es,ntmps54;go_wp2;all_goals(go_ret;exact⟨by simp[h],Y.refl c γ⟩)
end
theorem aeI(a:Z):ν δ 24 #[I E 4,I E 20] a λg f=>∃e d,g=ξ (π (N (U e 0 A)))/\fw f e 0 [] d/\Ψ a f γ d:=by
 have i:= @run_makeMap δ;go_enter func24,ntmps24;go_wp2;all_goals go_ret
 all_goals
  refine⟨a.heap.size+1,λc=>c=a.heap.size+1\/c=a.heap.size,rfl,⟨a.heap.size,⟨θ.dA _ _ _ _,((aC.made cM a).alloc _),nofun,.nil,.nil,nofun,by omega,by omega,nofun,λc=>⟨λb=>b.elim .inl λb=> .inr (.inl b),λb=>b.elim .inl λb=>b.elim .inr nofun⟩⟩⟩,⟨((Y.refl a γ).alloc _).alloc _,λc h=> .inr (by omega)⟩⟩
theorem aaL(e:∀a∈r,a.2.id<=m)(b:Nat)(c:υ)(g:c.id=m+1):look (r++[(b,c)])=put (look r) (m+1) (N (π (N (U b 0 A)))):=by
 funext x;by_cases d:x=m+1
 .subst d;rw[dJ];unfold look;rw[rD,lM.2 (λa f=>by have:=e a f;simp;omega)];simp[g]
 rw[dI _ _ _ _ d];unfold look;rw[rD];have:([(b,c)]:List (Nat×υ)).find? (λa=>a.2.id==x)=A:=by simp;omega
 rw[this];simp
theorem gP.more{h:Nat}(d:gP w h k m r j)(e:Nat)(g:υ)(u:g.id=m+1)(p:θ n e 42 g.cells)(q:w.heap.size<=e)(hblk:θ n h 121 #[.map (N k),I E (m+1),I E 4,I E 20])(B:aC cM n k (put (look r) (m+1) (N (π (N (U e 0 A))))) (r.length+1))(o:Y w n (λx=>x=h\/x=k))(F:m+1<=1000000000000):∃l,gP n h k (m+1) (r++[(e,g)]) l/\Ψ w n j l:=by
 have i:=d.bj;have C:=d.bP;have s:∀b∈r,b.1<w.heap.size:=λb a=>(d.cells b a).lt;refine⟨λx=>j x\/x=e,⟨hblk,?_,λb a=> ?_,?_,?_,λb a=> ?_,by omega,d.ne,λb a=> ?_,λx=> ?_⟩,⟨o.mono λx f=> .inl ((d.ak x).2 (f.elim .inl λc=> .inr (.inl c))),λx f=>f.elim .inl λc=> .inr (c▸q)⟩⟩
 .rw[aaL (λb a=>(i b a).2) e g u];simpa using B
 .obtain a|a:=dO.1 a
  .exact o.blk (d.cells b a) (λf=>f.elim (d.apart b a).1 (d.apart b a).2)
  obtain rfl:=cj.1 a;exact p
 .refine List.pairwise_append.2 ⟨d.dM,List.pairwise_singleton _ _,λb a J t=> ?_⟩;obtain rfl:=cj.1 t;have:=(i b a).2;show b.2.id<g.id;omega
 .rw[lP];refine List.nodup_append.2 ⟨d.nodup,by simp,λx f y z=> ?_⟩;obtain⟨b,a,rfl⟩:=List.mem_map.1 f;have:=s b a;simp at z;omega
 .obtain a|a:=dO.1 a
  .have:=i b a;omega
  obtain rfl:=cj.1 a;first|omega|(simp only;omega)
 .have H:=d.blk.lt;have G:=d.map.lt;obtain a|a:=dO.1 a
  .exact d.apart b a
  obtain rfl:=cj.1 a;exact⟨by first|omega|(simp only;omega),by first|omega|(simp only;omega)⟩
 show(j x\/x=e)↔_;rw[d.ak x];simp only[dO,cj];constructor
 .rintro((c|c|⟨b,a,c⟩)|c)
  .exact .inl c
  .exact .inr (.inl c)
  .exact .inr (.inr ⟨b,.inl a,c⟩)
  exact .inr (.inr ⟨_,.inr rfl,c.symm⟩)
 rintro(c|c|⟨b,a|rfl,c⟩)
 .exact .inl (.inl c)
 .exact .inl (.inr (.inl c))
 .exact .inl (.inr (.inr ⟨b,a,c⟩))
 exact .inr c.symm
def vH(n:Z)(m:Nat)(e:Int)(b:List (Nat×υ))(h:Bs)(d k:BA)(j:Int)(l:aI)(g:Z):Prop:=
 ∃(c:Option (Nat×υ)) (i:Nat) (f:Bs),l=ξ (σ #[I E (e+1),I E (nK c),I E 0])/\
  ((b.filter λa=>same a.2.ψ d).length<4->c=A)/\(4<=(b.filter λa=>same a.2.ψ d).length->∃a∈b.filter (λa=>same a.2.ψ d),c=N a)/\
  fw g m (e+1) ((match c with|none=>b|some a=>bY b a.2.id)++[(i,⟨e+1,d,k,(D #[]),j,0⟩)]) f/\Ψ n g h f
theorem adZ(a:fw w y m r j)(J:r.length<=1000)(b f:BA)(c:Int)(Q:aN b=true)(M:aN f=true)(ay:0<=c)(ai:∀s∈r,dW s.2 c=false)(aB:m<1000000000000)(hv:(r.filter λar=>same ar.2.ψ b).length<4):ν δ 167 #[π (N (U y 0 A)),H b,H f,I E c] w (vH w y m r j b f c):=by
 have P:∀t:BA,aN t=true->t.size<=1000000000000:=λt a=>by unfold aN at a;simp at a;omega
 have n:=K λo=>nT o b (P b Q);have l:=K λo=>nT o f (P f M);rw[Q] at n;rw[M] at l;have az:¬c<0:=by omega
 go_enter func167,ntmps167;go_wp2_with fail;refine(n.out _).mono ?_;rintro g aF ⟨rfl,ak⟩;go_wp2_with fail;refine(l.out _).mono ?_;rintro g av ⟨rfl,al⟩;have u:Y w av γ:=ak.trans al Η;have F:=(lJ y m r).keeps a u λ_ _ a=>a;have h:=K (C8 F J c);rw[lM.2 (λs aj=>by simp[ai s aj])] at h;unfold pu ig at h;clear n l;go_wp2_with fail;refine h.out.mono ?_;rintro g aw ⟨rfl,am⟩;have x:Y w aw γ:=u.trans am Η;have G:=(lJ y m r).keeps a x λ_ _ a=>a;have B:=K (Rx G J b);clear h F;go_wp2_with fail;refine B.out.mono ?_;rintro g e ⟨⟨aC,rfl,O,ah⟩,an⟩;have z:Y w e γ:=x.trans an Η;obtain⟨i,d⟩:=(lJ y m r).keeps a z λ_ _ a=>a;obtain rfl:=O hv;unfold ig;clear B G O ah;have aA:=d.bP;have aE:=d.blk.lt;have W:=d.blk.cell 0;have X:=d.blk.cell 1;have ax:=d.blk.frozen 1;simp at W X;have R:Y e (e.setCell (U y 1 A) (I E (m+1))) (·=y):=(Y.refl e (·=y)).χ (p:=(U y 1 A)) (.inl rfl) _;have p:=(d.blk.χ 1 (I E (m+1))).to (cs':=#[.map (N i),I E (m+1),I E 4,I E 20]) (by simp);have ao:=d.map.keeps R (λg=>d.ne g.symm);have au:(e.setCell (U y 1 A) (I E (m+1))).heap.size=e.heap.size:=by simp
 generalize af:e.setCell (U y 1 A) (I E (m+1))=V at*;have aq:Obj:=ζ #[I E (m+1),H b,H f,H (D #[]),I E c,I E 0] 42;obtain⟨C,S,ap,q⟩:=(ao.drew.alloc (ζ #[I E (m+1),H b,H f,H (D #[]),I E c,I E 0] 42)).store fI (t:=119) (e:=155) vd (by unfold Χ;omega) (x:=m+1) ⟨by omega,by omega⟩ (π (N (U e.heap.size 0 A)));simp only[cM] at S;have aa:=p.cell 0;have ab:=p.cell 1;simp at aa ab;clear aq;have L:=q.blk (((p.drew).alloc (ζ #[I E (m+1),H b,H f,H (D #[]),I E c,I E 0] 42))) d.ne;have ac:=L.cell 1;simp at ac;have aD:Sem.run δ (fB 119 (.map (N i)) (I E (m+1)) (π (N (U e.heap.size 0 A)))) (V.alloc (ζ #[I E (m+1),H b,H f,H (D #[]),I E c,I E 0] 42)).drew= .ok () C:=S;go_wp2_with fail;subst af;go_region
 go_wp2;have kk:Y e C (λk=>k=y\/k=i):=((R.mono λk g=> .inl (.inl g)).drew.alloc _).trans q λk g=> .inl (.inr g);obtain⟨T,ae,ad⟩:=d.more e.heap.size ⟨m+1,b,f,(D #[]),c,0⟩ rfl (q.blk (by rw[<-au];exact θ.new _ _ _) (by have:=d.map.lt;omega)) (Ο _) L ap kk (by omega);refine Ω (v:=σ #[I E (m+1),I E 0,I E 0]) (by simp[ag,results167,go_sem]) rfl ?_;exact⟨A,_,T,rfl,λ_=>rfl,λa=>ahN hv (by omega),⟨i,ae⟩,(Ψ.bu z j).trans ad⟩
theorem ad0(d:fw w y m r j)(Q:r.length<=1000)(c f:BA)(e:Int)(X:aN c=true)(S:aN f=true)(aS:0<=e)(V:∀z∈r,dW z.2 e=false)(aV:m<1000000000000)(hv:4<=(r.filter λa=>same a.2.ψ c).length):ν δ 167 #[π (N (U y 0 A)),H c,H f,I E e] w (vH w y m r j c f e):=by
 have W:∀B:BA,aN B=true->B.size<=1000000000000:=λB d=>by unfold aN at d;simp at d;omega
 have q:=K λs=>nT s c (W c X);have p:=K λs=>nT s f (W f S);rw[X] at q;rw[S] at p;have aT:¬e<0:=by omega
 go_enter func167,ntmps167;go_wp2_with fail;refine(q.out _).mono ?_;rintro h a3 ⟨rfl,aA⟩;go_wp2_with fail;refine(p.out _).mono ?_;rintro h aL ⟨rfl,aB⟩;have C:Y w aL γ:=aA.trans aB Η;have O:=(lJ y m r).keeps d C λ_ _ d=>d;have k:=K (C8 O Q e);rw[lM.2 (λz ay=>by simp[V z ay])] at k;unfold pu ig at k;clear q p;go_wp2_with fail;refine k.out.mono ?_;rintro h aM ⟨rfl,aC⟩;have F:Y w aM γ:=C.trans aC Η;have P:=(lJ y m r).keeps d F λ_ _ d=>d;have J:=K (Rx P Q c);clear k O;go_wp2_with fail;refine J.out.mono ?_;rintro h aO ⟨⟨aZ,rfl,av,T⟩,aD⟩;have G:Y w aO γ:=F.trans aD Η;obtain⟨n,b⟩:=(lJ y m r).keeps d G λ_ _ d=>d;obtain⟨a,u,rfl⟩:=T hv;have l:a∈r:=(dE.1 u).1;unfold ig;simp only[Option.map_some];clear J P av T;have hid:=b.bj a l;have aU:=b.bP;have aH:=(b.cells a l).cell 0;simp[υ.cells] at aH;have aI:=b.blk.cell 0;simp at aI;obtain⟨g,aJ,ac,ab⟩:=b.map.drop fI (t:=119) (e:=155) vd (x:=a.2.id) ⟨by omega,by omega⟩ 0;simp only[cM] at aJ;obtain⟨aP,aq,M⟩:=b.Hw a.2.id ac ab;have aY:(bY r a.2.id).length<=r.length:=jo _ _;have ar:nK (N a)=a.2.id:=rfl;have au:¬(r.filter λa=>same a.2.ψ c).length<4:=by omega
 have az:∀i,vH w y m r j c f e (ξ (σ #[I E (m+1),I E a.2.id,I E 0])) i↔vH w y m r j c f e (ξ (σ #[I E (m+1),I E a.2.id,I E 0])) i:=λ_=>Iff.rfl;clear az;have ae:=(Ψ.bu G j).trans M;have aW:=K l;have aw:=K u;clear l u ac ab M b V hv;have b:=aq;generalize ao:bY r a.2.id=aQ at*;generalize ax:a.2.id=pid at*;generalize aX:a.1=a0 at*;have a2:=b.blk.lt;have ah:=b.blk.cell 0;have ai:=b.blk.cell 1;have aR:=b.blk.frozen 1;simp at ah ai;have aa:Y g (g.setCell (U y 1 A) (I E (m+1))) (·=y):=(Y.refl g (·=y)).χ (p:=(U y 1 A)) (.inl rfl) _;have t:=(b.blk.χ 1 (I E (m+1))).to (cs':=#[.map (N n),I E (m+1),I E 4,I E 20]) (by simp);have aE:=b.map.keeps aa (λh=>b.ne h.symm);have aK:(g.setCell (U y 1 A) (I E (m+1))).heap.size=g.heap.size:=by simp
 generalize ap:g.setCell (U y 1 A) (I E (m+1))=af at*;have aG:Obj:=ζ #[I E (m+1),H c,H f,H (D #[]),I E e,I E 0] 42;obtain⟨L,ad,aF,x⟩:=(aE.drew.alloc (ζ #[I E (m+1),H c,H f,H (D #[]),I E e,I E 0] 42)).store fI (t:=119) (e:=155) vd (by unfold Χ;omega) (x:=m+1) ⟨by omega,by omega⟩ (π (N (U g.heap.size 0 A)));simp only[cM] at ad;have aj:=t.cell 0;have ak:=t.cell 1;simp at aj ak;clear aG;have R:=x.blk (((t.drew).alloc (ζ #[I E (m+1),H c,H f,H (D #[]),I E e,I E 0] 42))) b.ne;have al:=R.cell 1;simp at al;have a1:Sem.run δ (fB 119 (.map (N n)) (I E (m+1)) (π (N (U g.heap.size 0 A)))) (af.alloc (ζ #[I E (m+1),H c,H f,H (D #[]),I E e,I E 0] 42)).drew= .ok () L:=ad;go_wp2_with fail;subst ap;go_region
 go_wp2;have kk:Y g L (λo=>o=y\/o=n):=((aa.mono λo h=> .inl (.inl h)).drew.alloc _).trans x λo h=> .inl (.inr h);obtain⟨i,an,am⟩:=b.more g.heap.size ⟨m+1,c,f,(D #[]),e,0⟩ rfl (x.blk (by rw[<-aK];exact θ.new _ _ _) (by have:=b.map.lt;omega)) (Ο _) R aF kk (by omega);refine Ω (v:=σ #[I E (m+1),I E pid,I E 0]) (by simp[ag,results167,go_sem]) rfl ?_;exact⟨N a,_,i,by rw[ar],λd=>ahN d au,λ_=>⟨a,aw.out,rfl⟩,⟨n,by simp only;rw[ax,ao];exact an⟩,ae.trans am⟩
section
open Go.Sort Go.Shelf
def afD:Go.Shelf.Ren:=⟨fun|6=>110|15=>79|14=>183|28=>128|29=>129|20=>259|21=>260|22=>261|23=>262|24=>263|25=>264|26=>265|27=>266|46=>319|47=>194|48=>195|49=>320|50=>321|57=>366|a=>a,fun|22=>153|24=>155|25=>188|3=>3|39=>39|0=>0|53=>169|55=>32|4=>4|46=>203|45=>202|50=>174|5=>5|9=>9|66=>268|70=>272|76=>336|77=>337|a=>a,fun|a=>a⟩
theorem afB:Go.Proofs.SlLaysF.n6 δ afD:=by constructor<;>first|kernel_rfl|exact jg ⟨by decide+kernel,by kernel_rfl⟩|(intros;kernel_rfl)
def afC:Go.Shelf.Ren:=⟨fun|6=>110|15=>79|14=>183|28=>128|29=>129|20=>259|21=>260|22=>261|23=>262|24=>263|25=>264|26=>265|27=>266|46=>319|47=>194|48=>195|49=>320|50=>321|57=>366|a=>a,fun|22=>153|24=>155|25=>188|3=>3|39=>39|0=>0|53=>169|55=>32|4=>4|46=>203|45=>202|50=>174|5=>5|9=>9|66=>268|70=>272|76=>336|77=>337|a=>a,fun|a=>a⟩
theorem Q3:Go.Proofs.SlLaysF0.n6 δ afC:=by constructor<;>first|kernel_rfl|exact jg ⟨by decide+kernel,by kernel_rfl⟩|(intros;kernel_rfl)
theorem GK(a b:υ):(uD a b<0)↔(a.aH<b.aH\/(a.aH=b.aH/\a.id<b.id)):=by
 unfold uD ly;by_cases d:a.aH<b.aH
 .simp[d]
 by_cases f:b.aH<a.aH
 .simp[d,f];omega
 have c:a.aH=b.aH:=by omega
 by_cases e:a.id<b.id
 .simp[c,e]
 by_cases g:b.id<a.id<;>simp[c,e,g]
theorem swo{α:Type}(c:α->υ):SWO (ltOf λa b:α=>uD (c a) (c b)) where
 irrefl a:=by simp[ltOf,GK]
 trans a b z h1 h2:=by simp only[ltOf,decide_eq_true_eq,GK] at*;omega
 ntrans a b z h1 h2:=by simp only[ltOf,decide_eq_false_iff_not,GK] at*;omega
def TY(g:Z)(c i:Nat)(e:List (Nat×υ))(f:aI)(d:Z):Prop:=f=ξ (σ #[])/\∃a:List (Nat×υ),a.Perm e/\(∀b (h:b<a.length),d.cell? (U c b A)=N (π (N ⟨a[b].1,0,A⟩)))/\Y g d (·=c)
theorem adM{cap:Nat}{M:List (Nat×υ)}(g:θ w y 155 q)(k:∀a∈M,θ w a.1 42 a.2.cells)(O:M.length<=1000)(F:q.toList.take M.length=mJ M):ν δ 110 #[V (N (U y 0 A)) M.length cap,af (.func 111) #[] #[]] w (TY w y M.length M):=by
 by_cases p:M=[]
 .subst p;have e:=AnyF.slices_SortFunc_none Q3 (N (U y 0 A)) cap (af (.func 111) #[] #[]) w;change ν δ 110 _ _ _ at e;refine e.mono ?_;rintro i L ⟨rfl,rfl⟩;exact⟨rfl,[],.nil,λd c=>ahN c (Fh _),Y.refl _ _⟩
 obtain⟨K,G⟩:=List.exists_mem_of_ne_nil M p
 haveI:Inhabited {a // a∈M} :=⟨⟨K,G⟩⟩
 have t:∀a∈M,a.1≠y:=λa l i=>g.no (by decide) (i▸k a l)
 have r:Holds (λb: {a // a∈M} =>Value.pointer (N ⟨b.1.1,0,A⟩)) w y 0 M.attach.toArray:=by
  intro d c;simp only[oZ,List.length_attach] at c;refine⟨?_,g.frozen _⟩;rw[g.cell,eP];have j:(q.toList.take M.length)[d]? =(mJ M)[d]? :=by rw[F]
  rw[List.getElem?_take_of_lt c] at j;have E:(mJ M)[d]? =N (π (N ⟨M[d].1,0,A⟩)):=by simp only[mJ,List.getElem?_map];rw[cT c];rfl
  rw[E] at j;simp[c];simpa using j
 have e:=Any.slices_SortFunc afB (λb: {a // a∈M} =>Value.pointer (N ⟨b.1.1,0,A⟩)) (λ_=>rfl) (λb h: {a // a∈M} =>uD b.1.2 h.1.2) (swo (α:= {a // a∈M}) λb=>b.1.2) 111 #[] y 0 cap M.attach.toArray w (enters_of func111 (by kernel_rfl) rfl)
  (λI o x P b h=>by have u:=wL (enc:=λb: {a // a∈M} =>Value.pointer (N ⟨b.1.1,0,A⟩)) (w:=w) (g:=y) (q:=I) (d:=x) (os:=o);exact MS _ (u.blk (k b.1 b.2) (t _ b.2)) (u.blk (k h.1 h.2) (t _ h.2))) r g.lt (by simp;omega)
 change ν δ 110 _ _ _ at e;simp only[oZ,List.length_attach] at e;refine e.mono ?_;rintro i L ⟨rfl,f,J,o,l,_,rfl⟩;obtain⟨m,_,n⟩:=l;simp only[oZ,List.length_attach] at m n
 have H:(f.toList.map Subtype.val).Perm M:=by
  have z:f.extract 0 M.length=f:=by rw[<-m];simp
  have B:M.attach.toArray.extract 0 M.length=M.attach.toArray:=by
   have:M.attach.toArray.size=M.length:=by simp
   rw[<-this];simp[mo]
  rw[z,B] at n;have:=n.map Subtype.val;have C:M.attach.toArray.toList.map Subtype.val=M:=List.attach_map_subtype_val M;rw[C] at this;exact this
 refine⟨rfl,_,H,λd c=> ?_,wL⟩;have s:d<f.size:=by simpa using c
 have:=(holds_sortWorld _ w y 0 J M.attach.toArray f o g.lt r (by simp[m]) d s).1;rw[eP] at this;rw[this];simp[s]
theorem agQ:prog.underlying 53=N (.slice 42):=by kernel_rfl
theorem afl:(prog.info? 42).map (λa=>(a.zero,a.size,a.bytes))=N (N (Μ #[I E 0,H (D #[]),H (D #[]),H (D #[]),I E 0,I E 0]),6,72):=by kernel_rfl
theorem Ly(c:Nat)(i:w.ownsRow c 42 6 x y a)(d:υ)(j:y<=1000000)(h:c<=w.heap.size):∃e f,(gJ #[53,53] 53 #[x,V (N (U w.heap.size 0 A)) 1 1]).run δ (w.alloc (ζ d.cells 42))= .ok e f/\f.ownsRow c 42 6 e (y+1) (a++d.cells.toList)/\Y w f (λb=>x.ownBlock=N b)/\∀b,e.ownBlock=N b->x.ownBlock=N b\/w.heap.size<=b:=
 nA c 53 42 agQ afl rfl (by decide) i d.cells.toList rfl (λk g=>by simp[υ.cells] at g;rcases g with rfl|rfl|rfl|rfl|rfl|rfl<;>rfl) (by unfold Χ;omega) (by omega) h
def kO(a b:List (Nat×υ)):List (Nat×υ):=b.foldl (λa c=>bY a c.2.id) a
theorem Xz(a b:List (Nat×υ))(c:Nat×υ):kO a (b++[c])=bY (kO a b) c.2.id:=by simp[kO]
theorem Cb:∀(b a:List (Nat×υ)) {d:Nat×υ},d∈kO a b->d∈a
 |[],_,_,c=>c
 |e::b,a,_,c=>(dE.1 (Cb b (bY a e.2.id) c)).1
def xl(a:List (Nat×υ)):List ε:=a.flatMap λb=>b.2.cells.toList
theorem Ij(c:w.ownsRow y u d x M a)(e:k<=y):w.ownsRow k u d x M a:=by
 refine⟨c.1,?_⟩;obtain hn|⟨b,cap,cur,e1,hbg,rest⟩:=c.2
 .exact .inl hn
 exact .inr ⟨b,cap,cur,e1,aJ e hbg,rest⟩
def TF(d:Z)(j:Nat)(i:Int)(f g:List (Nat×υ))(e:Bs)(h:aI)(b:Z):Prop:=
 ∃v a c,h=ξ v/\a.Perm g/\b.ownsRow d.heap.size 42 6 v a.length (xl a)/\fw b j i (kO f a) c/\Ψ d b e c
theorem aar(d:fw w y m r j)(aR:r.length<=1000)(Ι:Int):ν δ 70 #[π (N (U y 0 A)),I E Ι] w (TF w y m r (r.filter λb=>mF b.2 Ι) j):=by
 obtain⟨t,d⟩:=d;have aw:Y w (w.alloc (ζ #[I E Ι] 3)) γ:=(Y.refl w γ).alloc _;have p:=d.keeps aw λ_ _ d=>d;have B:=K (Bv ⟨t,p⟩ aR 108 #[π (N (U w.heap.size 0 A))] (enters_of func108 (by kernel_rfl) rfl) (λT=>mF T Ι) (zS ⟨t,p⟩ λbe c f T s=>abO s w.heap.size Ι (by rw[(c.blk (θ.new w 3 #[I E Ι]) id).cell];rfl)));have aW:=jo (λb:Nat×υ=>mF b.2 Ι) r;have au:∀b∈r.filter (λb=>mF b.2 Ι),b∈r:=λb e=>(dE.1 e).1;generalize r.filter (λb=>mF b.2 Ι)=u at*;have ao:∀b∈u,θ w b.1 42 b.2.cells:=λb e=>d.cells b (au b e);go_enter func70,ntmps70;go_wp2_with fail;refine B.out.mono ?_;rintro g W ⟨v,rfl,F,a1⟩;have J:=aw.trans a1 Η;have bw:w.heap.size<=W.heap.size:=J.size;have F:=wU F (B':=w.heap.size) (by simp)
 have S:RowKit.Hid (ν δ 110 #[v,af (.func 111) #[] #[]] W λg G=>g=ξ (σ #[])/\∃a:List (Nat×υ),a.Perm u/\(∃O aa,v=V O u.length aa/\∀x (Q:x<a.length),∃k,O=N (U k 0 A)/\w.heap.size<=k/\k<G.heap.size/\G.cell? (U k x A)=N (π (N ⟨a[x].1,0,A⟩)))/\Y w G γ):=by
  unfold RowKit.Hid;obtain⟨rfl,aZ⟩|⟨k,aM,aN,rfl,ab,ap,bm,bn,bo,ax⟩:=F.2
  .have aS:u=[]:=kG.1 aZ;subst aS;have B:=AnyF.slices_SortFunc_none Q3 A 0 (af (.func 111) #[] #[]) W;change ν δ 110 _ _ _ at B;refine B.mono ?_;rintro g G ⟨rfl,rfl⟩;exact⟨rfl,[],.nil,⟨A,0,rfl,λx Q=>ahN Q (Fh _)⟩,J⟩
  refine(adM (M:=u) (cap:=aM) ap (λb e=>J.blk (ao b e) id) (by omega) (by rw[AV] at ax;exact ax)).mono ?_;rintro g G ⟨rfl,a,q,C,kk⟩;have aV:k<W.heap.size:=θ.lt (t:=155) (cs:=aN) ap;exact⟨rfl,a,q,⟨_,_,rfl,λx Q=>⟨k,rfl,ab,dQ aV kk.size,C x Q⟩⟩,J.trans kk λh g=> .inr (g▸ab)⟩
 obtain⟨O,aa,rfl⟩:=eX F;clear B;go_wp2_with fail;refine S.out.mono ?_;rintro g z ⟨rfl,a,q,⟨aJ,aK,ah,C⟩,L⟩;obtain⟨rfl,rfl⟩:O=aJ/\aa=aK:=by injection ah with p aj aP;exact⟨p,aP⟩
 clear S ah F;have aj:=d.keeps L λ_ _ d=>d;have al:a.length=u.length:=q.length_eq;have aY:∀b∈a,b∈r:=λb e=>au b (q.mem_iff.1 e);have bg:a.length<=1000:=by omega
 rw[<-al];have q:=K q;have aF:=L.size;clear al aW ao;go_wp2;go_loopw [6,8,16] (λa3 _ ad wr=>∃(c:Nat) (l:Bs),c<=a.length/\ad=I E c/\wr.ownsRow z.heap.size 42 6 a3 c (xl (a.take c))/\gP wr y t m (kO r (a.take c)) l/\Ψ z wr j l/\Y z wr (·=t)) (λ_ _ ad _=>a.length-(intOf ad).toNat)
 case atStart=>exact⟨0,j,ai _,rfl,db _ _ _ _,aj,Ψ.refl _ _,Y.refl _ _⟩
 obtain⟨c,l,bi,rfl,n,P,X,M⟩:=hrel
 have aQ:∀h,l h->h<w.heap.size:=λh i=>by
  obtain rfl|rfl|⟨b,e,rfl⟩:=(P.ak h).1 i
  .exact d.blk.lt
  .exact d.map.lt
  exact(d.cells b (Cb _ _ e)).lt
 have aH:=M.size;by_cases ac:c<a.length
 .have aX:(c:Int)<a.length:=by omega
  obtain⟨k,rfl,ab,aU,i⟩:=C c ac;have bA:wr.cell? (U k c A)=N (π (N ⟨a[c].1,0,A⟩)):=by rw[<-i];unfold fN;rw[M.block k aU (λg=>by have:=d.map.lt;omega)]
  have e:a[c]∈r:=aY _ (List.getElem_mem ac);have o:=M.blk (L.blk (d.cells _ e) id) (d.apart _ e).2;have a0:=(d.cells _ e).lt;have hid:=d.bj _ e;have bh:=d.bP;have av:a.take (c+1)=a.take c++[a[c]]:=by rw[List.take_succ_eq_append_getElem ac]
  obtain⟨bx,H,az,a4,R,a6⟩:=Ly z.heap.size n a[c].2 (by omega) aH;have TT:=K av;clear av i C e;generalize a[c]=b at*;obtain⟨ay,T⟩:=b;obtain⟨ag,bv,br,bt,bq,bs⟩:=T;simp only[υ.cells] at o az hid;have a7:=o.cell 0;have a8:=o.cell 1;have a9:=o.cell 2;have ba:=o.cell 3;have bb:=o.cell 4;have bc:=o.cell 5;simp at a7 a8 a9 ba bb bc;have aq:∀f,u6.ownBlock=N f->w.heap.size<=f:=λf s=>by have:=(n.lt f s).1;omega
  have bk:=d.map.lt;have bl:=d.blk.lt;have am:gP H y t m (kO r (a.take c)) l:=P.keeps R λh i g=>by have:=aQ h i;have:=aq h g;omega
  have an:gP H.drew y t m (kO r (a.take c)) l:=am.stay λ_ _=>rfl;obtain⟨bz,bd,a2,ae⟩:=an.map.drop fI (t:=119) (e:=155) vd (x:=ag) ⟨by omega,by omega⟩ 0;simp only[cM] at bd;obtain⟨aA,aT,aO⟩:=an.Hw ag a2 ae;have aL:=am.blk.cell 0;simp at aL;have bp:H.cell? (U ay 0 A)=N (I E ag):=by have:=(R.blk o λg=>by have:=(n.lt ay g).1;simp only at a0;omega).cell 0;simpa using this
  have bf:=d.map.lt;have aI:=K aT;have ar:∀f,u6.ownBlock=N f->z.heap.size<=f:=λf s=>(n.lt f s).1;have aC:Ψ z H j l:=⟨X.keeps.trans R λh i=> .inr (ar h i),X.fresh⟩;have aE:=K (aC.drew.trans aO);have aG:=K (((M.trans R λh i=> .inr (ar h i)).drew).trans ae λh i=> .inl i)
  have a5:=K (aD (pY (w':=H.drew) a4 λ_ _=>rfl) ae λf s g=>by
   obtain p|p:=a6 f s
   .have:=aq f p;omega
   omega)
  go_wp2_with (at_builtin;refine dy rfl (.tmp 20) (.tmp 24) 53 rfl rfl rfl az ?_);go_region
  go_wp2;refine⟨⟨c+1,aA,by omega,by go_num,?_,?_,aE.out,aG.out⟩,by simp[intOf];omega⟩
  .rw[TT.out];simpa[xl] using a5.out
  rw[TT.out,Xz];exact aI.out
 obtain rfl:c=a.length:=by omega
 have aX:¬(a.length:Int)<a.length:=by omega
 rw[List.take_length] at n P;have n:=K (Ij n aF);clear C;go_wp2;all_goals(go_ret;exact⟨_,a,l,rfl,q.out,n.out,⟨t,P⟩,(Ψ.bu L j).trans X⟩)
end
end Go.Proofs.YtdgneofhcenhfaaGreatDoor
